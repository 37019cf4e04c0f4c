import Derived.Test.YtmieflnoheifbaaGreatDoorK8
import Derived.Test.YtmieflnoheifbaaGreatDoorK3
import Derived.Test.YtmieflnoheifbaaGreatDoorK5
import Derived.Test.YtmieflnoheifbaaGreatDoorProg
import Derived.Test.YtmieflnoheifbaaGreatDoorK4
import Derived.Below
import Derived.Test.YtmieflnoheifbaaGreatDoorK1
import Derived.Lib.AppendIntMem
import Derived.Stop.LaidErr
import Derived.Lib.ItoaLen
set_option linter.all false
set_option maxHeartbeats 64000000
set_option maxRecDepth 100000
section
open Go Go.Proofs AF HY
namespace HY
theorem qGy(c:UInt8)(h:wh):ACalls Tryz.prog 222 [.int .u8 (c.toNat:Int)] h (.bool (spc c)) h:=by
 refine qF qyA (by simp) ?_;simp only[lco,lnl,Nat.reduceAdd,Nat.reduceSub,List.replicate,lca,lna,lan];simp (disch:=omega) only[qwz,go_sem]
 repeat' first|(refine qL (qbY c _) ?_ ?_;exact flk;simp (disch:=omega) only[go_sem])|exact wc|fail
def UP(s:List UInt8):AV:= .sl s.length λi=> [.int .u8 ((s.getD i 0).toNat:Int)]
def qbS(p:UInt8->Bool):List UInt8->Nat->Int
 | [],_=> -1
 |c::r,i=>if p c=true then i else qbS p r (i+1)
theorem qkO(p:UInt8->Bool): ∀(s:List UInt8) (i:Nat),(0<=qbS p s i↔s.any p=true)∧ -1<=qbS p s i:=by
 intro s
 induction s with
 |nil=>intro i;simp[qbS]
 |cons c r ih=>
  intro i
  by_cases hc:p c=true
  ·have e:qbS p (c::r) i=i:=ipo hc;rw[e,List.any_cons,hc];simp
   try omega
  ·have e:qbS p (c::r) i=qbS p r (i+1):=ine hc;rw[e,List.any_cons];have hc':p c=false:=by simpa using hc
   rw[hc',Bool.false_or];exact ih (i+1)
theorem qkN(p:UInt8->Bool)(s:List UInt8)(i:Nat):decide (0<=qbS p s i)=s.any p:=by
 rw[Bool.eq_iff_iff,decide_eq_true_eq];exact (qkO p s i).1
theorem qGA(s:List UInt8)(p:UInt8->Bool)(F:Nat)(h:wh)(hs:s.length<=1000000000)(hp: ∀(c:UInt8) (h:wh),ACalls Tryz.prog F [.int .u8 (c.toNat:Int)] h (.bool (p c)) h):ACalls Tryz.prog 282 [UP s,.fn (.func F) [] []] h (.int .i64 (qbS p s 0)) h:=by
 refine qF qyZ (by simp) ?_;simp only[lco,lnl,Nat.reduceAdd,Nat.reduceSub,List.replicate,lca,lna,lan];simp (disch:=omega) only[qwW,UP,go_sem];refine qk (T:=λi:Nat=>qP 19 [(0,UP s),(1,.fn (.func F) [] []),(6,UP s),(7,.int .i64 s.length),(8,.int .i64 i)]) (H:=λ_=>h) (inv:=λi=>i<=s.length∧qbS p s 0=qbS p (s.drop i) i) (m:=λi=>s.length-i) 0 ⟨om,by simp⟩ (Wk.temps ?_) ?_
 ·(simp only[UP,qP,List.foldl,go_sem,qf,qc,qa,qe];try exact we)
 ·rintro i ⟨i1,i2⟩ K hK;rw[i2]
  by_cases hi:i<s.length
  ·have e:s.drop i=s.getD i 0::s.drop (i+1):=by rw[List.drop_eq_getElem_cons hi];simp[gdqA,hi]
   rw[e]at i2 ⊢;simp only[qbS]at i2 ⊢;have hpc:=λh=>hp (s.getD i 0) h
   cases hb:p (s.getD i 0)with
   |true=>
    rw[hb]at hpc;simp (disch:=omega) only[qP,List.foldl,UP,go_sem]
    repeat' first|(refine qI (hpc _) ?_;simp (disch:=omega) only[go_sem,qr])|(apply qh;exact rvk;simp only[go_sem];first|exact qi|apply qg)|(with_reducible first|intro _|apply aiA)|exact clz|fail
   |false=>
    rw[hb]at hpc i2;simp (disch:=omega) only[qP,List.foldl,UP,go_sem]
    repeat' first|(refine qI (hpc _) ?_;simp (disch:=omega) only[go_sem,qr])|(apply qh;exact rvk;simp only[go_sem];apply qg)|(with_reducible first|intro _|apply aiA)|exact clz|fail
    refine hK _ _ (i+1) ⟨om,by rw[i2];simp⟩ om (Wk.temps ?_)
    (simp only[UP,qP,List.foldl,go_sem,qf,qc,qa,qe];try exact we)
  ·have e:i=s.length:=by omega
   subst e;rw[List.drop_length];simp (disch:=omega) only[qP,List.foldl,UP,go_sem]
   repeat' first|exact wc|(with_reducible first|intro _|apply aiA)|exact clz|fail
theorem qGx(s:List UInt8)(p:UInt8->Bool)(F:Nat)(h:wh)(hs:s.length<=1000000000)(hp: ∀(c:UInt8) (h:wh),ACalls Tryz.prog F [.int .u8 (c.toNat:Int)] h (.bool (p c)) h):ACalls Tryz.prog 221 [UP s,.fn (.func F) [] []] h (.bool (s.any p)) h:=by
 rw[<-qkN p s 0];refine qF qyz (by simp) ?_;simp only[lco,lnl,Nat.reduceAdd,Nat.reduceSub,List.replicate,lca,lna,lan];simp (disch:=omega) only[qwy,UP,go_sem]
 repeat' first|(refine qL (qGA s p F _ hs hp) ?_ ?_;exact flk;simp (disch:=omega) only[go_sem])|exact wc|fail
theorem t88(s:List UInt8)(h:wh)(hs:s.length<=1000000000):ACalls Tryz.prog 145 [.str s] h (.bool (ke s)) h:=by
 obtain⟨c,hc⟩:=wg (zz s)
 have h104: ∀h:wh,ACalls Tryz.prog 219 [.str s] h (.int .i64 c) h:=λh=>by rw[hc];exact qD5 s h hs
 have hw:ke s=(decide (0<s.length)&&decide (s.length<=64)&&decide (c=0)&&(decide (kind (ch s 0)=1)||decide (kind (ch s 0)=3))&& !(s.any spc)):=by rw[hc];rfl
 rw[hw]
 by_cases g1:0<s.length
 ·have k1:(s= [])=False:=eqf (by intro e;rw[e]at g1;simp at g1)
  by_cases g2:s.length<=64
  ·have k2:(64<(s.length:Int))=False:=wl
   by_cases g3:c=0
   ·refine qF qgJ (by simp) ?_;simp only[lco,lnl,Nat.reduceAdd,Nat.reduceSub,List.replicate,lca,lna,lan];simp (disch:=omega) only[qjZ,k1,k2,g3,go_sem]
    repeat' first|((first|refine qL (qbY _ _) ?_ ?_|refine qL (qGx s spc 222 _ hs qGy) ?_ ?_);exact flk;simp (disch:=omega) only[go_sem])|(refine qQ (λe=>⟨?_,h104 _⟩) ?_;exact flk;simp (disch:=omega) only[g3,jV,go_sem])|(apply qh;exact rvk;simp only[go_sem];apply qd)|(with_reducible first|intro _|apply aiA)|exact clz|fail
    all_goals (generalize s.any spc=b;grind)
   ·refine qF qgJ (by simp) ?_;simp only[lco,lnl,Nat.reduceAdd,Nat.reduceSub,List.replicate,lca,lna,lan];simp (disch:=omega) only[qjZ,k1,k2,go_sem]
    repeat' first|(refine qQ (λe=>⟨?_,h104 _⟩) ?_;exact flk;simp (disch:=omega) only[g3,jV,go_sem])|exact wc|fail
    all_goals (generalize s.any spc=b;grind)
  ·have k2:(64<(s.length:Int))=True:=wj;refine qF qgJ (by simp) ?_;simp only[lco,lnl,Nat.reduceAdd,Nat.reduceSub,List.replicate,lca,lna,lan];simp (disch:=omega) only[qjZ,k1,k2,go_sem]
   repeat' first|(refine qj ((.int .i64 0)) ?_;simp (disch:=omega) only[go_sem])|(apply qh;exact rvk;simp only[go_sem];apply qd)
   all_goals (generalize s.any spc=b;grind)
 ·have e:s= []:=List.eq_nil_of_length_eq_zero om;subst e;refine qF qgJ (by simp) ?_;simp only[lco,lnl,Nat.reduceAdd,Nat.reduceSub,List.replicate,lca,lna,lan];simp (disch:=omega) only[qjZ,go_sem]
  repeat' first|(refine qj ((.int .i64 0)) ?_;simp (disch:=omega) only[go_sem])|exact wc|fail
  all_goals (generalize List.any _ spc=b;grind)
end HY
end
section
open Go Go.Proofs AF
def kX:List Nat:= [249,175,179,251,306,307,355,381,178]
theorem qys:qG Tryz.prog 18 26 0 [RV.tmp 4] cEQ:=fi Tryz.f18 [] kX []
theorem qzc:qG Tryz.prog 30 26 0 [RV.tmp 4] cEQ:=fi Tryz.f30 [] kX []
def qCH:C:=
 (vU [MC 4 (.bool false)] ((vU [MV 6 0,O1 7 .len 6,MV 8 1,O1 9 .len 8,BI 10 .neq 7 9] (vV 10 (vX [MC 4 (.bool false)]))).seq ((vU [vO 5 0] (C.block 0 ((v6 11 5 0 0).seq ((C.block
 1 (vU [MV 17 0,MV 18 5,O2 19 (.idxA 1) 17 18,LD 20 19,MV 21 1,MV 22 5,O2 23 (.idxA 1) 21 22,LD 24 23,BI 25 .neq 20 24] (vV 25 (vX [MC 4 (.bool false)])))).seq (vZ 15
 5))).loop)).seq (vX [MC 4 (.bool true)]))))
theorem qzO:qG Tryz.prog 93 26 0 [RV.tmp 4] qCH:=fi Tryz.f93 [] kX []
theorem qx6:qG Tryz.prog 128 9 0 [RV.tmp 4] (cCT 125):=fi Tryz.f128 [] kX []
theorem qx5:qG Tryz.prog 125 19 0 [RV.tmp 4] cIX:=fi Tryz.f125 [] kX []
theorem qyM:qG Tryz.prog 239 19 0 [RV.tmp 4] (cIF 1 none):=fi Tryz.f239 [] kX []
def qwP:C:=
 (vU [MC 4 (.str []),MC 5 (.bool false)] (vX [MV 6 0,MV 7 1,O2 8 (.call 308 true) 6 7,O1 9 (.ext 0) 8,O1 10 (.ext 1) 8,MV 4 9,MV 5 10]))
theorem qyQ:qG Tryz.prog 254 11 0 [RV.tmp 4,RV.tmp 5] qwP:=fi Tryz.f254 [] kX []
def qwl:C:=
 (vU [MC 4 (.bool false)] ((vU [vO 5 0] (C.block 0 ((v6 6 5 0 0).seq ((C.block 1 (vU [MV 12 0,MV 13 5,O2 14 (.idxA 1) 12 13,LD 15 14,O1 16 .slen 15,vP 17 .gtr 16 20] (vV 17 (vX
 [MC 4 (.bool true)])))).seq (vZ 10 5))).loop)).seq (vX [MV 18 0,O1 19 .len 18,MV 20 1,BI 21 .gtr 19 20,MV 4 21])))
theorem qyl:qG Tryz.prog 158 22 0 [RV.tmp 4] qwl:=fi Tryz.f158 [] kX []
def qsD:C:=
 (vU [MC 4 (.str []),MC 5 (.bool false)] ((vU [MV 6 0,MV 7 1,O2 8 (.call 356 true) 6 7,O1 9 (.un UnOp.not) 8] (vV 9 (vX [MV 10 0,MV 4 10,MC 5 (.bool false)]))).seq (vX [MV 11
 0,MV 12 0,O1 13 .slen 12,MV 14 1,O1 15 .slen 14,BI 16 .sub 13 15,O2 17 (.sslc false true) 11 16,MV 4 17,MC 5 (.bool true)])))
theorem qrA:qG Tryz.prog 308 18 0 [RV.tmp 4,RV.tmp 5] qsD:=fi Tryz.f308 [] kX []
def kc:C:=
 (vU [O1 1 (.box 0 119) 0,vO 2 0] ((vU [vN 6 4 1,LD 7 6,vP 8 .lss 7 0,MV 9 8,v7 10 9 4 1,v8 11 9 10,vT 12 9 (.bin .gtr) 11 (i6 31),PT 13 9 12] (vV 13 (vX [vO 2 2]))).seq (vU [O1
 14 (.load (some 6)) 1,OC 15 (.call 211 true) 14 (i6 2),O1 16 (.load (some 6)) 1,OC 17 (.call 211 true) 16 (i6 8),MV 3 15,MV 4 17] ((vU [MV 18 3,MV 19 18,MG 20 19 true 4,PF 21
 19 20] (vV 21 (vX [vO 2 8]))).seq ((C.block 0 (vU [MV 51 3,MV 50 51] (C.cond (.t 50) (vU [vN 52 0 1,LD 53 52,O1 54 (.call 212 true) 53,O1 55 (.un UnOp.not) 54,MV 56 55,v7 57 56
 1 1,v8 58 56 57,v7 59 56 0 1,v8 60 56 59,vR 61 56 (.bin .neq) 58 60,PT 62 56 61] (vV 62 (vX [vO 2 11]))) (vU [MV 64 4,MV 63 64] (C.cond (.t 63) (vU [vN 65 0 1,LD 66 65,O1 67
 .slen 66,vP 68 .neq 67 1,MV 69 68,v7 70 69 0 1,v8 71 69 70,vT 72 69 .sidx 71 (i6 0),vQ 73 69 (.call 163 true) 72,vT 74 69 (.bin .neq) 73 (i6 5),vS 75 69 74,P1 76 75 true (.fldA
 0) 1,P1 77 75 true (.load none) 76,PC 78 75 true .sidx 77 (i6 0),P1 79 75 true (.call 163 true) 78,PC 80 75 true (.bin .neq) 79 (i6 4),QF 81 69 false 75 80,PT 82 69 81,MV 83
 82,v7 84 83 1 1,v8 85 83 84,v7 86 83 0 1,v8 87 83 86,vR 88 83 (.bin .neq) 85 87,PT 89 83 88] (vV 89 (vX [vO 2 11]))) ((vU [vN 22 0 1,LD 23 22,O1 24 (.call 89 true) 23,O1 25
 (.un UnOp.not) 24,MV 26 25,v7 27 26 1 1,v8 28 26 27,vT 29 26 (.bin .eql) 28 (.str []),PT 30 26 29,MV 31 30,v7 32 31 1 1,v8 33 31 32,vQ 34 31 .slen 33,vT 35 31 (.bin .gtr) 34
 (i6 64),PT 36 31 35] (vV 36 (vX [vO 2 11]))).seq (vU [vO 5 0] (C.block 1 ((vU [MV 37 5,vN 38 1 1,LD 39 38,O1 40 .slen 39,BI 41 .lss 37 40] (vW 41 1)).seq ((C.block 2 (vU [vN 44
 1 1,LD 45 44,MV 46 5,O2 47 .sidx 45 46,O1 48 (.call 213 true) 47,O1 49 (.un UnOp.not) 48] (vV 49 (vX [vO 2 11])))).seq (vZ 42 5))).loop)))))))).seq ((vU [vN 90 2 1,vN 91 1
 90,LD 92 91,vP 93 .lss 92 0] (vV 93 (vX [vO 2 2]))).seq ((vU [vN 94 2 1,vN 95 0 94,LD 96 95,O1 97 (.call 214 true) 96,O1 98 (.un UnOp.not) 97,MV 99 98,v7 100 99 5 1,v8 101 99
 100,vQ 102 99 (.call 214 true) 101,vQ 103 99 (.un UnOp.not) 102,PT 104 99 103] (vV 104 (vX [vO 2 14]))).seq (vX [vO 2 0]))))))))
theorem jg:qG Tryz.prog 138 105 1 [RV.tmp 2] kc:=fi Tryz.f138 [1] kX []
def qwt:C:=
 (vU [O1 2 (.box 0 119) 0,MC 4 (.bool false)] (vX [vN 5 4 2,LD 6 5,MV 7 1,BI 8 .quo 6 7,vP 9 .rem 8 2,vP 10 .eql 9 1,MV 4 10]))
theorem qyu:qG Tryz.prog 211 11 1 [RV.tmp 4] qwt:=fi Tryz.f211 [2] kX []
def qwu:C:=
 (vU [MC 2 (.bool false)] ((vU [vO 3 1] (C.block 0 ((vU [MV 4 3,vP 5 .leq 4 64] (vW 5 0)).seq ((C.block 1 (vU [MV 8 0,MV 9 3,O1 10 (.call 116 true) 9,ON 11 (.bin .add) [.c (.str
 [91]),.t 10],BC 12 .add 11 (.str [93]),BI 13 .eql 8 12] (vV 13 (vX [MC 2 (.bool true)])))).seq (vZ 6 3))).loop)).seq (vX [MC 2 (.bool false)])))
theorem qyv:qG Tryz.prog 212 14 0 [RV.tmp 2] qwu:=fi Tryz.f212 [] kX []
def qj2:C:=
 (vU [MC 2 (.bool false)] (vU [MV 4 0,O1 5 (.call 163 true) 4,MV 3 5] (vX [MV 6 3,vP 7 .eql 6 1,MV 8 7,vS 9 8 3,vT 10 8 (.bin .eql) 9 (i6 2),PT 11 8 10,MV 12 11,vS 13 12 3,vT 14
 12 (.bin .eql) 13 (i6 3),PT 15 12 14,MV 16 15,vS 17 16 3,vT 18 16 (.bin .eql) 17 (i6 4),PT 19 16 18,MV 2 19])))
theorem qgM:qG Tryz.prog 213 20 0 [RV.tmp 2] qj2:=fi Tryz.f213 [] kX []
def qsr:C:=
 (vU [MC 2 (.bool false)] (vX [MV 3 0,BC 4 .eql 3 (.str []),MV 5 4,vS 6 5 0,vQ 7 5 (.call 136 true) 6,PT 8 5 7,MV 2 8]))
theorem qrn:qG Tryz.prog 214 9 0 [RV.tmp 2] qsr:=fi Tryz.f214 [] kX []
end
section
open Go Go.Proofs AF HY LN
namespace RC
abbrev Str:=List UInt8
def qx(L:List Int):AV:= .sl L.length λi=> [.int .i64 (L.getD i 0)]
def qf6(s:Str):Bool:=decide (1<=s.length)&&decide (s.drop (s.length-1)= [42])
def qqm(s:Str):Bool:=if qf6 s=true then f6 (s.take (s.length-1))&&decide (s.length<=16) else f6 s
theorem quf:((1:Nat):Int)=1:=rfl
theorem qrJ(s:Str)(h:wh)(hs:s.length<=1000000000):ACalls Tryz.prog 356 [.str s,.str [42]] h (.bool (qf6 s)) h:=by
 unfold qf6
 by_cases g:1<=s.length
 ·have k1:((1:Int)<=s.length)=True:=wj;have k2:((s.length:Int)-1).toNat=s.length-1:=by omega
  have k3:(0<=(s.length:Int)-1)=True:=wj;have k4:((s.length:Int)-1<=s.length)=True:=wj;have k5:List.take (s.length-(s.length-1)) (List.drop (s.length-1) s)=s.drop (s.length-1):=ltl (by simp);rw[dqt g];refine acO qrB ?_;simp (disch:=omega) only[qsE,quf,k1,k2,k3,k4,k5,go_sem]
  repeat' first|exact wc|with_reducible apply aiA|exact clz|fail
 ·have k1:((1:Int)<=s.length)=False:=wl;rw[dqf g];refine acO qrB ?_;simp (disch:=omega) only[qsE,quf,k1,go_sem]
  repeat' first|exact wc|fail
theorem qs2(s:Str)(h:wh)(hs:s.length<=1000000000):ACalls Tryz.prog 308 [.str s,.str [42]] h (.tup [.str (if qf6 s=true then s.take (s.length-1) else s),.bool (qf6 s)]) h:=by
 have c1:=λh=>qrJ s h hs
 cases g:qf6 s with
 |true=>
  rw[g]at c1;have g1:1<=s.length:=by unfold qf6 at g;simp at g;omega
  have k2:((s.length:Int)-1).toNat=s.length-1:=by omega
  have k3:(0<=(s.length:Int)-1)=True:=wj;have k4:((s.length:Int)-1<=s.length)=True:=wj;refine acO qrA ?_;simp (disch:=omega) only[qsD,go_sem]
  repeat' first|(refine cA (c1 _) flk ?_;simp (disch:=omega) only[quf,k2,k3,k4,Nat.sub_zero,go_sem])|exact wc|with_reducible apply aiA|exact clz|fail
 |false=>
  rw[g]at c1;refine acO qrA ?_;simp (disch:=omega) only[qsD,go_sem]
  repeat' first|(refine cA (c1 _) flk ?_;simp (disch:=omega) only[go_sem])|exact wc|fail
theorem qxM(s:Str)(h:wh)(hs:s.length<=1000000000):ACalls Tryz.prog 254 [.str s,.str [42]] h (.tup [.str (if qf6 s=true then s.take (s.length-1) else s),.bool (qf6 s)]) h:=by
 have c1:=λh=>qs2 s h hs
 refine acO qyQ ?_;simp (disch:=omega) only[qwP,go_sem]
 repeat' first|(refine cA (c1 _) flk ?_;simp (disch:=omega) only[go_sem])|exact wc|with_reducible apply aiA|exact clz|fail
theorem qqz(s:Str)(h:1<=s.length):qf6 s=decide (((s[s.length-1]?).getD 0).toNat=42):=by
 unfold qf6;rw[dqt h,Bool.true_and];have e:s.drop (s.length-1)= [(s[s.length-1]?).getD 0]:=by
  rw[List.drop_eq_getElem_cons (show s.length-1<s.length by omega),zD (show s.length-1<s.length by omega),List.drop_eq_nil_of_le om];rfl
 rw[e];congr 1;simp only[List.cons.injEq,and_true,eq_iff_iff];exact⟨λh=>by rw[h];rfl,λh=>UInt8.toNat_inj.1 (by rw[h];rfl)⟩
def qah(f:Nat->Int):Nat->Nat->Int
 |_,0=>0
 |i,k+1=>if f i≠0 then f i else qah f (i+1) k
theorem qeD{f:Nat->Int}{n i:Nat}(hi:i<=n)(h: ∀j,j<i->f j=0):qah f 0 n=qah f i (n-i):=by
 induction i with
 |zero=>rfl
 |succ i ih=>
  rw[ih om (λj hj=>h j om),show n-i=(n-(i+1))+1 by omega];simp only[qah,h i om,ne_eq,not_true_eq_false,if_false]
theorem Ux{f:Nat->Int}{n i:Nat}(hi:i<n)(h: ∀j,j<i->f j=0)(hp:f i≠0):qah f 0 n=f i:=by
 rw[qeD om h,show n-i=(n-i-1)+1 by omega];simp only[qah];rw[ipo hp]
theorem jO{f:Nat->Int}{n:Nat}(h: ∀j,j<n->f j=0):qah f 0 n=0:=by
 rw[qeD (nlr n) h,Nat.sub_self];rfl
theorem jW{f:Nat->Int}{n:Nat}:qah f 0 n=0↔ ∀j,j<n->f j=0:=by
 refine⟨λh=> ?_,jO⟩;intro j
 induction j using Nat.strongRecOn with
 |_ j ih=>
  intro hj
  by_cases e:f j=0
  ·exact e
  ·rw[Ux hj (λk hk=>ih k hk om) e]at h;exact absurd h e
def quP(b:Int)(l:List Int)(i:Nat):Int:=if l.getD i 0<0∨b<=l.getD i 0 then 2 else if 0<i∧l.getD i 0<=l.getD (i-1) 0 then 10 else 0
def qCl(b:Int)(l:List Int):Int:=qah (quP b l) 0 l.length
structure Gr where
 name:Str
 mem:List Int
 deriving Inhabited
def grC(g:Gr):wi:= [.str g.name,qx g.mem]
def qnK(gs:List Gr):AV:= .sl gs.length λi=>grC (gs.getD i default)
def kf(names:List Str)(i:Nat):Int:=if qqm (names.getD i [])=false then 14 else if jC (λj=>decide (names.getD i []=names.getD j [])) i=true then 7 else 0
def qtB(names:List Str)(gs:List Gr)(i:Nat):Int:=
 if f6 (gs.getD i default).name=false then 14 else if jC (λj=>decide ((gs.getD i default).name=names.getD j [])) names.length=true then 7 else
  if jC (λj=>decide ((gs.getD i default).name=(gs.getD j default).name)) i=true then 7 else if (gs.getD i default).mem.length=0 then 5 else qCl names.length (gs.getD i default).mem
def sgE(names:List Str)(gs:List Gr):Int:=
 if 32<names.length then 4 else if qah (kf names) 0 names.length≠0 then qah (kf names) 0 names.length else if 16<gs.length then 4 else qah (qtB names gs) 0 gs.length
theorem qtQ(n:Nat)(g:Nat->Str)(x:Str)(h:wh)(hn:n<=1000000000):ACalls Tryz.prog 125 [.sl n (λj=> [.str (g j)]),.str x] h (.int .i64 (qbE (λj=>decide (x=g j)) n 0)) h:=by
 have:=qDC qx5 n (λj=> .s (g j)) (.s x) h (λ_ _=>rfl) om
 simpa only[At.v,At.s.injEq] using this
theorem qCX(n:Nat)(g:Nat->Str)(x:Str)(h:wh)(hn:n<=1000000000):ACalls Tryz.prog 128 [.sl n (λj=> [.str (g j)]),.str x] h (.bool (jC (λj=>decide (x=g j)) n)) h:=
 qxL qx6 ⟨rfl,rfl⟩ ⟨rfl,rfl⟩ (qtQ n g x h hn)
end RC
end
section
namespace AF
open Go
theorem Wk.kill{t:wi}{h:wh}{k v:Nat}{ty:TypeId}{cs:wi}(hk:qu k h=some (.mem v ty cs)):Wk t h t (qt k h (.emp (v+1))):=by
 intro N w σ a H;have hkl:k<σ.length:=by rw[H.hr.len];exact zR hk
 have ho:=zD hkl;obtain⟨m1,_⟩:=H.hr.obj k _ _ hk ho;obtain⟨g1,g2⟩:=H.hr.kill ho;rw[m1]at g1 g2;exact⟨_,⟨g1,H.sz,λi c x hc hx=>(H.tm i c x hc hx).ext g2,qaH g2 H.df⟩,g2⟩
end AF
end
section
open Go Go.Proofs AF HY LN
namespace RC
theorem qhu{p q:Nat->Bool}{n:Nat}(h: ∀i,i<n->p i=q i):jC p n=jC q n:=by
 cases e:jC q n with
 |true=>obtain⟨i,h1,h2⟩:=qN.1 e;exact qN.2 ⟨i,h1,by rw[h i h1,h2]⟩
 |false=>exact qp.2 λi hi=>by rw[h i hi];exact qp.1 e i hi
def qDK(l:List Int):Nat:=l.foldl (λa n=>a|||2^n.toNat) 0
def inB(b:Int)(l:List Int):Prop:= ∀i,i<l.length->0<=l.getD i 0∧l.getD i 0<b
theorem qrM(l:List Int): ∀a:Nat,a<2^64->(∀n∈l,0<=n∧n<64)->l.foldl (λa n=>a|||2^n.toNat) a<2^64∧ ∀i,(l.foldl (λa n=>a|||2^n.toNat) a).testBit i=(a.testBit i||decide ((i:Int)∈l)):=by
 induction l with
 |nil=>intro a ha _;exact⟨ha,λi=>by simp⟩
 |cons n l ih=>
  intro a ha hl;have hn:=hl n (by simp);obtain⟨h1,h2⟩:=ih (a|||2^n.toNat) (Nat.or_lt_two_pow ha (Nat.pow_lt_pow_right om om)) (λm hm=>hl m (by simp[hm]));refine⟨h1,λi=> ?_⟩;rw[List.foldl_cons,h2 i,Nat.testBit_or,Nat.testBit_two_pow]
  by_cases e:(i:Int)=n
  ·have e':n.toNat=i:=by omega
   simp[e,e']
  ·have e': ¬n.toNat=i:=by omega
   simp[e,e']
theorem qb6{l:List Int}{b:Int}(h:inB b l): ∀n∈l,0<=n∧n<b:=by
 intro n hn;obtain⟨i,hi,e⟩:=List.getElem_of_mem hn
 have:=h i hi
 rw[gdqA,zD hi]at this;rw[<-e];exact this
theorem qAp{l:List Int}(h:inB 64 l):qDK l<2^64:=(qrM l 0 (by decide) (qb6 h)).1
theorem qt0{l:List Int}(h:inB 64 l)(i:Nat):(qDK l).testBit i=decide ((i:Int)∈l):=by
 have:=(qrM l 0 (by decide) (qb6 h)).2 i
 rw[Nat.zero_testBit,Bool.false_or]at this;exact this
def qlw(p:Nat->Bool)(k:Nat):List Int:=((List.range k).filter p).map Int.ofNat
def qM(L:List Int):wi:=L.map λn=> .int .i64 n
theorem ja(L:List Int):(qM L).length=L.length:=by simp[qM]
theorem qaP(L M:List Int):qM (L++M)=qM L++qM M:=by simp[qM]
theorem qeK{L:List Int}:qM L= []↔L= []:=by simp[qM]
theorem qct{L:List Int}{n:Nat}(g:AV->AV)(hg: ∀n,g (.int .i64 n)= .int .i64 n)(hn:n=L.length):VLe (.sl n λi=>(((qM L).drop i).take 1).map g) (qx L):=by
 subst hn;refine VLe.sl_eq rfl (λi hi=> ?_);unfold qM;rw[<-List.map_drop,List.drop_eq_getElem_cons hi,List.map_cons,List.take_succ_cons,List.take_zero,List.map_cons,List.map_nil,hg,gdqA,zD hi];rfl
theorem qhR(L:List Int):(qx L).flag=true:=rfl
theorem qf8(L:List Int):(qx L).strip=qx L:=rfl
theorem qlb{fz:Nat->Bool}{h:wh}{n:Nat}(L:List Int):frz fz h (n+1) (qx L)=qx L:=rfl
theorem qmj{fz:Nat->Bool}{h:wh}{n:Nat}(L:List Int):rei fz h (n+1) (qx L)=qx L:=rfl
theorem qkW(L:List Str):(strs L).flag=true:=rfl
theorem qiH(L:List Str):(strs L).strip=strs L:=rfl
theorem qo8{fz:Nat->Bool}{h:wh}{n:Nat}(L:List Str):frz fz h (n+1) (strs L)=strs L:=rfl
theorem qp5{fz:Nat->Bool}{h:wh}{n:Nat}(L:List Str):rei fz h (n+1) (strs L)=strs L:=rfl
theorem qkT(L:List Gr):(qnK L).flag=true:=rfl
theorem qiE(L:List Gr):(qnK L).strip=qnK L:=rfl
theorem qo6{fz:Nat->Bool}{h:wh}{n:Nat}(L:List Gr):frz fz h (n+1) (qnK L)=qnK L:=rfl
theorem qp3{fz:Nat->Bool}{h:wh}{n:Nat}(L:List Gr):rei fz h (n+1) (qnK L)=qnK L:=rfl
attribute [go_sem] qhR qf8 qlb qmj qkW qiH qo8 qp5 qkT qiE qo6 qp3
def nIx(names:List Str)(s:Str):Int:=qbE (λj=>decide (s=names.getD j [])) names.length 0
def gIx(gs:List Gr)(s:Str):Int:=qbE (λj=>decide (s=(gs.getD j default).name)) gs.length 0
def qql(names:List Str)(gs:List Gr)(sg:List Str)(i:Nat):Int:=
 if nIx names (sg.getD i [])<0∧gIx gs (sg.getD i [])<0 then 6 else if jC (λj=>decide (sg.getD i []=sg.getD j [])) i=true then 7 else 0
def els(names:List Str)(gs:List Gr)(s:Str):List Int:=if 0<=nIx names s then [nIx names s] else (gs.getD (gIx gs s).toNat default).mem
def qq6(names:List Str)(gs:List Gr)(sg:List Str):Nat->Nat
 |0=>0
 |i+1=>qq6 names gs sg i|||qDK (els names gs (sg.getD i []))
def qhN(names:List Str)(gs:List Gr)(sg:List Str):Int:=if sgE names gs≠0 then 1 else qah (qql names gs sg) 0 sg.length
def qcE(names:List Str)(gs:List Gr)(sg:List Str):List Int:=if qhN names gs sg=0 then qlw (qq6 names gs sg sg.length).testBit 64 else []
theorem quQ{b:Int}{l:List Int}(h:qCl b l=0):inB b l∧ ∀i,0<i->i<l.length->l.getD (i-1) 0<l.getD i 0:=by
 unfold qCl at h;rw[jW]at h;refine⟨λi hi=> ?_,λi h0 hi=> ?_⟩
 ·have:=h i hi
  unfold quP at this;split at this
  ·cases this
  ·rename_i hc;omega
 ·have:=h i hi
  unfold quP at this;split at this
  ·cases this
  ·split at this
   ·cases this
   ·rename_i hc;omega
structure qCb (names:List Str) (gs:List Gr):Prop where
 n32:names.length<=32
 g16:gs.length<=16
 na: ∀i,i<names.length->kf names i=0
 gr: ∀i,i<gs.length->qtB names gs i=0
theorem qrX{names:List Str}{gs:List Gr}(h:sgE names gs=0):qCb names gs:=by
 unfold sgE at h;split at h
 ·cases h
 split at h
 ·rename_i h1;exact absurd h h1
 split at h
 ·cases h
 rename_i h1 h2 h3;exact⟨om,om,jW.1 (by simpa using h2),jW.1 h⟩
theorem qtC{names:List Str}{gs:List Gr}(h:qCb names gs){i:Nat}(hi:i<gs.length):qCl names.length (gs.getD i default).mem=0:=by
 have:=h.gr i hi
 unfold qtB at this
 repeat' split at this
 all_goals first|(cases this;done)|exact this
theorem qlx(names:List Str)(s:Str):(∃k:Nat,k<names.length∧names.getD k []=s∧nIx names s=k)∨((∀j,j<names.length->s≠names.getD j [])∧nIx names s= -1):=by
 rcases zE (λj=>decide (s=names.getD j [])) names.length with⟨i,h1,h2,_,h4⟩|⟨h1,h2⟩
 ·exact .inl ⟨i,h1,(of_decide_eq_true h2).symm,h4⟩
 ·exact .inr ⟨λj hj=>of_decide_eq_false (h1 j hj),h2⟩
theorem qle(gs:List Gr)(s:Str):(∃k:Nat,k<gs.length∧(gs.getD k default).name=s∧gIx gs s=k)∨((∀j,j<gs.length->s≠(gs.getD j default).name)∧gIx gs s= -1):=by
 rcases zE (λj=>decide (s=(gs.getD j default).name)) gs.length with⟨i,h1,h2,_,h4⟩|⟨h1,h2⟩
 ·exact .inl ⟨i,h1,(of_decide_eq_true h2).symm,h4⟩
 ·exact .inr ⟨λj hj=>of_decide_eq_false (h1 j hj),h2⟩
theorem qkI{names:List Str}{gs:List Gr}{s:Str}(h:qCb names gs)(hf: ¬(nIx names s<0∧gIx gs s<0)):inB names.length (els names gs s):=by
 unfold els;rcases qlx names s with⟨k,h1,_,h3⟩|⟨_,h3⟩
 ·rw[h3,ipo om];intro i hi
  have:i=0:=by simpa using hi
  subst this;simp only[List.getD_cons_zero];omega
 ·rw[h3,ine om];rcases qle gs s with⟨k,g1,_,g3⟩|⟨_,g3⟩
  ·rw[g3,itn];exact (quQ (qtC h g1)).1
  ·exact absurd ⟨om,om⟩ hf
theorem qgR{b c:Int}{l:List Int}(h:inB b l)(hbc:b<=c):inB c l:=λi hi=>⟨(h i hi).1,by have:=(h i hi).2;omega⟩
theorem qsc{names:List Str}{gs:List Gr}{sg:List Str}(h:qCb names gs): ∀ {i:Nat},(∀j,j<i->qql names gs sg j=0)->qq6 names gs sg i<2^64∧ ∀k,(qq6 names gs sg i).testBit k=decide (∃j,j<i∧(k:Int)∈els names gs (sg.getD j [])):=by
 intro i
 induction i with
 |zero=>intro _;exact⟨Nat.two_pow_pos 64,λk=>by simp[qq6]⟩
 |succ i ih=>
  intro hz;obtain⟨h1,h2⟩:=ih (λj hj=>hz j om);have h3: ¬(nIx names (sg.getD i [])<0∧gIx gs (sg.getD i [])<0):=by
   intro hc
   have:=hz i om
   unfold qql at this;rw[ipo hc]at this;cases this
  have h4:inB 64 (els names gs (sg.getD i [])):=qgR (qkI h h3) (by have:=h.n32;omega);refine⟨Nat.or_lt_two_pow h1 (qAp h4),λk=> ?_⟩;unfold qq6;rw[Nat.testBit_or,h2 k,qt0 h4 k,<-Bool.decide_or];refine decide_eq_decide.2 ⟨?_,?_⟩
  ·rintro (⟨j,hj,hm⟩|hm)
   ·exact⟨j,om,hm⟩
   ·exact⟨i,om,hm⟩
  ·rintro⟨j,hj,hm⟩
   by_cases e:j=i
   ·subst e;exact .inr hm
   ·exact .inl ⟨j,om,hm⟩
end RC
end
section
namespace AF
open Go Go.RowKit
theorem Ext.ofBelow{w w':World}{σ:List OB}{h:wh}(H:HR w σ h)(hb:Below w.heap.size w w'):HR w' σ h∧Ext w σ w' σ:=by
 have e:Ext w σ w' σ:=⟨hb.os,hb.tape,hb.output,hb.size,λb hl _=>hb.block b hl,λ_ h=> .inl h,λ_ o h=>⟨o,h,nlr _,λ_=>rfl⟩,
  λb r h=>⟨r,(hb.block b (Array.getElem?_eq_some_iff.1 h).1).trans h⟩⟩
 exact⟨⟨H.len,H.inj,λk o b h1 h2=>Nat.lt_of_lt_of_le (H.lt k o b h1 h2) hb.size,λk a o h1 h2=>(H.obj k a o h1 h2).ext e (λb h3=>hb.block b (H.lt k o b h2 h3))⟩,e⟩
end AF
end
section
namespace AF
open Go Go.ChangeShapes Go.WideShapes Go.ChangeAt Go.RowKit
def ql8:OB:=⟨none,0,0,0⟩
theorem qfQ(b:Nat): ¬own [ql8] b:=by
 rintro⟨k,o,h,h2⟩;cases k with
 |zero=>simp at h;subst h;cases h2
 |succ k=>simp at h
theorem qAc{w:World}{bs:List Nat}{G:World->Prop}(hb: ∀b,b∈bs-> ∃arr T fz,w.heap[b]? =some (.cells arr T fz))(hG: ∀w':World,(∀b,b∈bs->w'.heap[b]? =w.heap[b]?)->G w'):
  HR w [ql8] [.pin bs G]:=by
 refine⟨rfl,?_,?_,?_⟩
 ·intro i j oi oj b hi hj bi;cases i with
  |zero=>simp at hi;subst hi;cases bi
  |succ i=>simp at hi
 ·intro k o b hk hb';cases k with
  |zero=>simp at hk;subst hk;cases hb'
  |succ k=>simp at hk
 ·intro k a o ha ho;cases k with
  |zero=>
   simp at ha ho;subst ha;subst ho;exact⟨rfl,rfl,λb h=>⟨qfQ b,hb b h⟩,hG⟩
  |succ k=>simp at ha
theorem qtg(w:World):Ext w [] w [ql8]:=
 ⟨rfl,rfl,rfl,nlr _,λ_ _ _=>rfl,λb h=>absurd h (qfQ b),λk o h=>by simp at h,λ_ r h=>⟨r,h⟩⟩
theorem qja{w w':World}{σ':List OB}(h:Ext w [ql8] w' σ'):Below w.heap.size w w':=⟨h.os,h.tape,h.output,h.size,λk hk=>h.keep k hk (qfQ k)⟩
theorem VRs.ext{w w':World}{σ σ':List OB}(h:Ext w σ w' σ'){avs:wi}{xs:List Value}(hv:VRs w σ avs xs):VRs w' σ' avs xs:=⟨hv.1,λi c x hc hx=>(hv.2 i c x hc hx).ext h⟩
theorem qAA{w:World}{σ:List OB}{h:wh}{k:Nat}{bs:List Nat}{G:World->Prop}(H:HR w σ h)(hk:h[k]? =some (.pin bs G)):G w:=by
 have hl:k<σ.length:=by rw[H.len];exact (lgs.1 hk).1
 obtain⟨_,_,_,h4⟩:=H.obj k _ σ[k] hk (zD hl);exact h4 w (λ_ _=>rfl)
theorem qeO{H:Type}{enc:TypeId×Value->H}{P:Program}{W:World}{f:Func}{fid:FuncId}{s:ChangeSpec}{args:Array Value}{ds gs:List (DataW H)}{before:List MemPlace}{tb:TypeId}{bs:List Nat}{G:World->Prop}
  (hl:laidOutB P=true) (hv:s.vars= []) (hfn: ∀ds',ds'.length=f.params.size->s.fn H ds'= { results:= [.lit (.bool true)],args:=ds' })
  (hrt:f.resultTypes= #[tb]) (htb:P.underlying tb=some .bool) (hro: ∀t∈f.params.toList,P.readableRec t=true∧t<P.types.size)
  (hW:DataW.Whole enc P f.params.toList s.vars false W args.toList ds gs before)
  (hb: ∀b,b∈bs-> ∃arr T fz,W.heap[b]? =some (.cells arr T fz)) (hG: ∀w':World,(∀b,b∈bs->w'.heap[b]? =W.heap[b]?)->G w')
  (hc: ∀p,DataW.TrodAll enc P W 0 (λ_=>true) true f.params.toList args.toList ds p->ds.length=f.params.size∧ ∃avs:wi,VRs W [] avs args.toList∧ACalls P fid avs [.pin bs G] (.bool true) [.pin bs G]):
  Calls P fid args W λe W'=> ∃v,e= .returned v∧s.post enc P f false true false false W args v W':=by
 have hW':=hW;obtain⟨p,q,hA,hV,rfl,hz,_⟩:=hW;rw[hv]at hV;obtain⟨rfl,rfl⟩:=trodVars_none hV;obtain⟨hlen,avs,h1,h2⟩:=hc p hA;rw[lan]at hW';have h3:=h2.2 W [ql8] args.toList (qAc hb hG) (h1.ext (qtg W));rw[Array.toArray_toList]at h3;refine (callsIn_wide.1 h3).mono ?_;rintro e W' ⟨v,σ',rfl,g1,g2,g3⟩;obtain rfl:=jT g2;exact⟨_,rfl,qpl hl hv (hfn ds hlen) hrt htb hro hW' hA (qja g3)⟩
theorem qea{P:Program}{w w':World}{name:String}{g:Nat}(hg:P.globalNamed name=some g)(h:w'.heap[g]? =w.heap[g]?):w'.var? P name=w.var? P name:=by
 unfold World.var?;rw[hg];simp only[Option.bind_some];rw[h]
theorem qcD{P:Program}{w:World}{name:String}{g:Nat}{cs:Array Value}(hg:P.globalNamed name=some g)(h:w.var? P name=some cs): ∃arr T fz,w.heap[g]? =some (.cells arr T fz):=by
 unfold World.var? at h;rw[hg]at h;simp only[Option.bind_some]at h;split at h
 ·rename_i cs T fz hc;exact⟨_,_,_,hc⟩
 ·cases h
end AF
end
section
open Go Go.Proofs AF HY
namespace LN
def qr5 (w : World) : Prop := Lib.TabIs Tryz.prog w "internal/strconv.uint64pow10" .u64 Lib.pow10Tab
def qB9 (w : World) : Prop := (∃ tp p, w.var? Tryz.prog "strconv.ErrSyntax" = some #[.iface tp p]) ∧ ∃ tp p, w.var? Tryz.prog "strconv.ErrRange" = some #[.iface tp p]
def cb(Q:World->Prop)(h:wh):Prop:= ∃(k:Nat) (bs:List Nat) (G:World->Prop),h[k]? =some (.pin bs G)∧ ∀w,G w->Q w
theorem cb.app{Q:World->Prop}{h:wh}(hp:cb Q h)(l:wh):cb Q (h++l):=by
 obtain⟨k,bs,G,h1,h2⟩:=hp;exact⟨k,bs,G,by rw[List.getElem?_append_left (lgs.1 h1).1];exact h1,h2⟩
theorem cb.mono{Q Q':World->Prop}{h:wh}(hp:cb Q h)(hq: ∀w,Q w->Q' w):cb Q' h:=by
 obtain⟨k,bs,G,h1,h2⟩:=hp;exact⟨k,bs,G,h1,λw hw=>hq w (h2 w hw)⟩
theorem cb.of{Q:World->Prop}{h:wh}{w:World}{σ:List OB}(hp:cb Q h)(H:HR w σ h):Q w:=by
 obtain⟨k,bs,G,h1,h2⟩:=hp;exact h2 w (qAA H h1)
theorem t48(n:Int)(h:wh)(hp:cb qr5 h)(h0: -9223372036854775808<=n)(h1:n<=9223372036854775807):ACalls Tryz.prog 116 [.int .i64 n] h (.str (Lib.itoa n)) h:=by
 refine⟨qt9 Tryz.func116 (by kernel_rfl) (by kernel_rfl),λw σ xs H hv=> ?_⟩;obtain⟨x,rfl,hx⟩:=hv.one;rw[zV hx];refine (callsIn_wide.2 (Any.strconv_Itoa Tryz.laysM171 n h0 h1 w (hp.of H))).mono ?_;rintro e w' ⟨rfl,k,os,rfl⟩;obtain⟨g1,g2⟩:=Ext.ofBelow H (Lib.below_grow w.heap.size w (nlr _) k os);exact⟨_,σ,rfl,g1,.imm .str,g2⟩
def qv1(s:List UInt8):Int:=
 match Lib.atoiAll s with
 | .ok _=>0
 | .range=>Lib.atoiSat s
 |_=>0
def qsf(s:List UInt8):AV:=
 match Lib.atoiAll s with
 | .ok v=> .tup [.int .i64 v,.nilif]
 |_=> .tup [.int .i64 (qv1 s),.ifc]
theorem t50(s:List UInt8)(h:wh)(hp:cb qB9 h)(hl:s.length<=281474976710656):ACalls Tryz.prog 195 [.str s] h (qsf s) h:=by
 refine⟨qt9 Tryz.func195 (by kernel_rfl) (by kernel_rfl),λw σ xs H hv=> ?_⟩;obtain⟨x,rfl,hx⟩:=hv.one;rw[kg hx];have hsz:(⟨s.toArray⟩:ByteArray).size<=281474976710656:=by simpa[ByteArray.size] using hl
 obtain⟨⟨t1,p1,e1⟩,t2,p2,e2⟩:=hp.of H;unfold qsf qv1;have hd:(⟨s.toArray⟩:ByteArray).data.toList=s:=rfl;cases hs:Lib.atoiAll s
 ·rename_i v;refine (callsIn_wide.2 (Any.strconv_Atoi_ok Tryz.laysC172 ⟨s.toArray⟩ om v (by rw[hd];exact hs) w)).mono ?_;rintro e w' ⟨rfl,hw⟩;have hb:Go.RowKit.Below w.heap.size w w':=by
   rcases hw with rfl|⟨t,rfl⟩
   ·exact Go.RowKit.Below.refl _ _
   ·exact Lib.bytesWorld_below _ _ _
  obtain⟨g1,g2⟩:=Ext.ofBelow H hb;refine⟨_,σ,rfl,g1,.imm (.tup rfl (λi c y hc hy=> ?_)),g2⟩
  match i with
  |0=>simp at hc hy;subst hc hy;exact .int
  |1=>simp at hc hy;subst hc hy;exact .nilif
  |i+2=>simp at hc
 ·refine (callsIn_wide.2 (Any.strconv_Atoi_syntax_var Tryz.laysC172 ⟨s.toArray⟩ hsz (by rw[hd];exact hs) t1 p1 w e1)).mono ?_;rintro e w' ⟨N,rfl,_,_,hb⟩;obtain⟨g1,g2⟩:=Ext.ofBelow H hb;refine⟨_,σ,rfl,g1,.imm (.tup rfl (λi c y hc hy=> ?_)),g2⟩
  match i with
  |0=>simp at hc hy;subst hc hy;exact .int
  |1=>simp at hc hy;subst hc hy;exact .ifc
  |i+2=>simp at hc
 ·refine (callsIn_wide.2 (Any.strconv_Atoi_range_var Tryz.laysC172 ⟨s.toArray⟩ hsz (by rw[hd];exact hs) t2 p2 w e2)).mono ?_;rintro e w' ⟨N,rfl,_,_,hb⟩;obtain⟨g1,g2⟩:=Ext.ofBelow H hb;refine⟨_,σ,rfl,g1,.imm (.tup rfl (λi c y hc hy=> ?_)),g2⟩
  match i with
  |0=>simp at hc hy;subst hc hy;exact .int
  |1=>simp at hc hy;subst hc hy;exact .ifc
  |i+2=>simp at hc
theorem qlR: ∀(l r:List UInt8) (acc:Nat),Lib.parseUint10 acc (l++r)=match Lib.parseUint10 acc l with
  | .ok v=>Lib.parseUint10 v r
  |e=>e:=by
 intro l
 induction l with
 |nil=>intro r acc;rfl
 |cons c l ih=>
  intro r acc;rw[lca,Lib.parseUint10,Lib.parseUint10]
  by_cases h1:48<=c.toNat∧c.toNat<=57
  ·rw[ipo h1,ipo h1]
   by_cases h2:1844674407370955162<=acc
   ·rw[ipo h2,ipo h2]
   ·rw[ine h2,ine h2]
    by_cases h3:18446744073709551616<=acc*10+(c.toNat-48)
    ·rw[ipo h3,ipo h3]
    ·rw[ine h3,ine h3];exact ih r _
  ·rw[ine h1,ine h1]
theorem qdv{d:Nat}(h:d<10):(UInt8.ofNat (48+d)).toNat=48+d:=by
 rw[UInt8.toNat_ofNat'];omega
theorem qlS: ∀u,u<1000000000->Lib.parseUint10 0 (Lib.decDigits u)= .ok u:=by
 intro u
 induction u using Nat.strongRecOn with
 |_ u ih=>
  intro hu
  by_cases h:u<10
  ·rw[Lib.decDigits,dif_pos h,Lib.parseUint10,qdv h,ipo om,ine om,ine om,Lib.parseUint10];congr 1;omega
  ·rw[Lib.decDigits,dif_neg h,qlR,ih (u/10) om om];simp only;rw[Lib.parseUint10,qdv om,ipo om,ine om,ine om,Lib.parseUint10];congr 1;omega
theorem qhK: ∀u,∀c∈Lib.decDigits u,48<=c.toNat∧c.toNat<=57:=by
 intro u
 induction u using Nat.strongRecOn with
 |_ u ih=>
  intro c hc
  by_cases h:u<10
  ·rw[Lib.decDigits,dif_pos h,List.mem_singleton]at hc;subst hc;rw[qdv h];omega
  ·rw[Lib.decDigits,dif_neg h]at hc;rcases List.mem_append.1 hc with hc|hc
   ·exact ih (u/10) om c hc
   ·rw[List.mem_singleton]at hc;subst hc;rw[qdv om];omega
theorem qxP(u:Nat):Lib.decDigits u≠ []:=by
 intro h
 have:=Lib.decDigits_length u
 have:=Lib.nDigits_pos u
 rw[h]at*;simp at*;omega
theorem qi8{n:Int}(h0:0<=n)(h1:n<1000000000):Lib.atoiAll (Lib.itoa n)= .ok n:=by
 obtain⟨u,rfl⟩: ∃u:Nat,n=u:=⟨n.toNat,om⟩
 rw[Lib.itoa_nonneg];have hd:=qhK u;have hp:=qlS u om;have hne:=qxP u;cases hl:Lib.decDigits u with
 |nil=>exact absurd hl hne
 |cons c r=>
  rw[hl]at hd hp;have hc:=hd c (List.mem_cons_self ..);unfold Lib.atoiAll;simp only;rw[ine (show¬(c.toNat=43∨c.toNat=45) by omega)];unfold Lib.parseMag;rw[ine (by simp),hp];simp only;rw[ine om,ine om,ine om]
end LN
end
section
open Go Go.Proofs AF HY LN
namespace RC
theorem qnY{s:Str}{v:Int}(h:Lib.atoiAll s= .ok v): -9223372036854775808<=v∧v<=9223372036854775807:=by
 unfold Lib.atoiAll at h;split at h
 ·cases h
 ·simp only at h;split at h
  ·cases h
  ·cases h
  ·split at h
   ·cases h
   ·split at h
    ·cases h
    ·rename_i h1 h2;cases h;split
     ·rename_i h3;have:=mt (And.intro h3) h2;omega
     ·rename_i h3;have:=mt (And.intro h3) h1;omega
theorem qfN{k:Nat}(h:k<=64):(Lib.itoa (k:Int)).length<=9:=by
 rw[Lib.itoa_nonneg]
 by_cases g:k<10
 ·rw[Lib.decDigits,dif_pos g];simp
 ·rw[Lib.decDigits,dif_neg g,Lib.decDigits,dif_pos (show k/10<10 by omega)];simp
def SG(w:World):Prop:=qr5 w∧qB9 w
theorem SG.pow{h:wh}(hp:cb SG h):cb qr5 h:=hp.mono λ_ h=>h.1
theorem SG.err{h:wh}(hp:cb SG h):cb qB9 h:=hp.mono λ_ h=>h.2
def pre(s:Str):Bool:=decide (1<=s.length)&&decide (s.take 1= [91])
def qeE(s:Str):Bool:=(List.range 64).any λk=>decide (s=91::(Lib.itoa ((k+1:Nat):Int)++ [93]))
def qEx(s:Str):Bool:=ke s||(if s.length=1 then decide (kind (ch s 0)=5)||decide (kind (ch s 0)=4) else qeE s)
def wE(s:Str):Int:=if qEx s=true then 0 else 11
def qnG(L:List Str):Int:=qah (λi=>wE (L.getD i [])) 0 L.length
theorem qCh(a b c:Str)(n f g:Int)(d:Str)(h:wh)(hf:0<=f)(hf2:f<=31)(hg:0<g):ACalls Tryz.prog 211 [.agg [.str a,.str b,.str c,.int .i64 n,.int .i64 f,.str d],.int .i64 g] h (.bool (decide (f/g%2=1))) h:=by
 have k1:(g=0)=False:=wl;have k2:0<=f/g:=Int.ediv_nonneg hf om;have k3:f/g<=f:=Int.ediv_le_self _ hf;refine acO qyu ?_;simp (disch:=omega) only[qwt,go_sem]
 repeat' first|exact wa|with_reducible apply aiA|exact clz|fail
theorem qFK(s:Str)(h:wh)(hs:s.length<=1000000000)(hp:cb SG h):ACalls Tryz.prog 212 [.str s] h (.bool (qeE s)) h:=by
 refine acO qyv ?_;simp (disch:=omega) only[qwu,go_sem];refine qk (T:=λi:Nat=>qP 14 [(0,.str s),(3,.int .i64 ((i+1:Nat):Int))]) (H:=λ_=>h) (inv:=λi=>i<=64∧ ∀j,j<i->s≠91::(Lib.itoa ((j+1:Nat):Int)++ [93])) (m:=λi=>64-i) 0 ⟨nzl _,λj hj=>absurd hj (nnz j)⟩ (Wk.temps ?_) ?_
 ·(simp only[go_sem,qf,qc,qa,qe];try exact we)
 rintro i ⟨i1,i2⟩ K hK;have ec:((i+1:Nat):Int)=(i:Int)+1:=by omega
 by_cases hi:i<64
 ·have k1:((i:Int)+1<=64)=True:=wj;have c181:=t48 ((i:Int)+1) h (SG.pow hp) om om;have hl:(Lib.itoa ((i:Int)+1)).length<=9:=by rw[<-ec];exact qfN om
  obtain⟨t,ht⟩:=wg (Lib.itoa ((i:Int)+1))
  rw[<-ht]at c181 hl
  by_cases g:s=91::(t++ [93])
  ·have q1:(s=91::(t++ [93]))=True:=eqt g;have hV:qeE s=true:=by
    unfold qeE;rw[List.any_eq_true];exact⟨i,by simpa using hi,dqt (by rw[ec,<-ht];exact g)⟩
   rw[hV];simp (disch:=omega) only[ec,k1,go_sem]
   repeat' first|(refine cA (c181) flk ?_;simp (disch:=omega) only[q1,go_sem])|exact wc|with_reducible apply aiA|exact clz|fail
  ·have q1:(s=91::(t++ [93]))=False:=eqf g;simp (disch:=omega) only[ec,k1,go_sem]
   repeat' first|(refine cA (c181) flk ?_;simp (disch:=omega) only[q1,go_sem])|with_reducible apply aiA|exact clz|fail
   refine hK _ _ (i+1) ⟨hi,λj hj=> ?_⟩ om (Wk.temps ?_)
   ·by_cases e':j=i
    ·subst e';rw[ec,<-ht];exact g
    ·exact i2 j om
   ·(simp only[go_sem,qf,qc,qa,qe];try exact we)
 ·have k1:((i:Int)+1<=64)=False:=wl;have hV:qeE s=false:=by
   cases e:qeE s with
   |false=>rfl
   |true=>
    unfold qeE at e;rw[List.any_eq_true]at e;obtain⟨j,hj,e⟩:=e;exact absurd (of_decide_eq_true e) (i2 j (by have:j<64:=(by simpa using hj);omega))
  rw[hV];simp (disch:=omega) only[ec,k1,go_sem]
  repeat' first|exact wc|fail
def qrc(C L:List Int):List Int:=L.foldl (λC n=>C.set n.toNat (C.getD n.toNat 0+1)) C
theorem qoa(L:List Int): ∀C:List Int,(qrc C L).length=C.length:=by
 induction L with
 |nil=>intro C;rfl
 |cons n L ih=>intro C;show (qrc (C.set _ _) L).length=_;rw[ih];simp
theorem qln{C:List Int}{n:Nat}(h:n<C.length):(qM C)[n]? =some (.int .i64 (C.getD n 0)):=by
 unfold qM;rw[List.getElem?_map,zD h,gdqA,zD h];rfl
theorem qoL{names:List Str}{gs:List Gr}{sg:List Str}:inB names.length (qcE names gs sg)∧ ∀i,0<i->i<(qcE names gs sg).length->(qcE names gs sg).getD (i-1) 0<(qcE names gs sg).getD i 0:=by
 unfold qcE;split
 ·rename_i h;have h':=h;unfold qhN at h';split at h'
  ·cases h'
  rename_i h1;have hok:=qrX (by simpa using h1);have hz:=jW.1 h';obtain⟨m1,m2⟩:=qsc hok hz;have hsort:(qlw (qq6 names gs sg sg.length).testBit 64).Pairwise (· < ·):=by
   unfold qlw;rw[List.pairwise_map];exact (List.pairwise_lt_range.filter _).imp (λh=>Int.ofNat_lt.2 h)
  have hmem: ∀n∈qlw (qq6 names gs sg sg.length).testBit 64,0<=n∧n<names.length:=by
   intro n hn;unfold qlw at hn;obtain⟨k,hk,rfl⟩:=List.mem_map.1 hn;have hk2:=(List.mem_filter.1 hk).2;rw[m2 k]at hk2;obtain⟨j,hj,hm⟩:=of_decide_eq_true hk2;have hf: ¬(nIx names (sg.getD j [])<0∧gIx gs (sg.getD j [])<0):=by
    intro hc
    have:=hz j hj
    unfold qql at this;rw[ipo hc]at this;cases this
   exact qb6 (qkI hok hf) _ hm
  refine⟨λi hi=> ?_,λi h0 hi=> ?_⟩
  ·rw[gdqA,zD hi];exact hmem _ (List.getElem_mem hi)
  ·rw[gdqA,gdqA,zD hi,zD (show i-1<_ by omega)];exact List.pairwise_iff_getElem.1 hsort (i-1) i om hi om
 ·exact⟨λi hi=>absurd hi (nnz i),λi _ hi=>absurd hi (nnz i)⟩
theorem qoM{names:List Str}{gs:List Gr}{sg:List Str}:inB 32 (qcE names gs sg):=by
 by_cases h:qhN names gs sg=0
 ·have h':=h;unfold qhN at h';split at h'
  ·cases h'
  rename_i h1;have hok:=qrX (by simpa using h1);exact qgR qoL.1 (by have:=hok.n32;omega)
 ·have:qcE names gs sg= []:=by unfold qcE;rw[ine h]
  rw[this];exact λi hi=>absurd hi (nnz i)
structure Tk where
 text:Str
 norm:Str
 page:Str
 line:Int
 flags:Int
 name:Str
 deriving Inhabited, DecidableEq
def tkC(t:Tk):wi:= [.str t.text,.str t.norm,.str t.page,.int .i64 t.line,.int .i64 t.flags,.str t.name]
def zy(l:List Tk):AV:= .sl l.length λi=>tkC (l.getD i default)
def qn(L:List (List Tk)):AV:= .sl L.length λi=> [zy (L.getD i [])]
def qv(L:List (List Int)):AV:= .sl L.length λi=> [qx (L.getD i [])]
structure Co where
 sec:Str
 sig:List Str
 tok:List (List Tk)
 col:List (List Int)
 deriving Inhabited
def coC(x:Co):wi:= [.str x.sec,strs x.sig,qn x.tok,qv x.col]
structure Rd where
 words:List Str
 src:List Int
 deriving Inhabited, DecidableEq
def rdC(r:Rd):wi:= [strs r.words,qx r.src]
def jh(l:List Rd):AV:= .sl l.length λi=>rdC (l.getD i default)
structure Un where
 frm:Int
 to:Int
 rds:List Rd
 deriving Inhabited, DecidableEq
def unC(u:Un):wi:= [.int .i64 u.frm,.int .i64 u.to,jh u.rds]
def qZ(l:List Un):AV:= .sl l.length λi=>unC (l.getD i default)
structure Wd where
 text:Str
 col:Int
 unit:Int
 dec:Int
 joined:Bool
 verse:Bool
 name:Str
 deriving Inhabited, DecidableEq
def wdC(w:Wd):wi:= [.str w.text,.int .i64 w.col,.int .i64 w.unit,.int .i64 w.dec,.bool w.joined,.bool w.verse,.str w.name]
def kq(l:List Wd):AV:= .sl l.length λi=>wdC (l.getD i default)
theorem flag_tksV(L:List Tk):(zy L).flag=true:=rfl
theorem strip_tksV(L:List Tk):(zy L).strip=zy L:=rfl
theorem flag_tkssV(L:List (List Tk)):(qn L).flag=true:=rfl
theorem strip_tkssV(L:List (List Tk)):(qn L).strip=qn L:=rfl
theorem flag_colsV(L:List (List Int)):(qv L).flag=true:=rfl
theorem strip_colsV(L:List (List Int)):(qv L).strip=qv L:=rfl
theorem flag_rdsV(L:List Rd):(jh L).flag=true:=rfl
theorem strip_rdsV(L:List Rd):(jh L).strip=jh L:=rfl
theorem flag_unsV(L:List Un):(qZ L).flag=true:=rfl
theorem strip_unsV(L:List Un):(qZ L).strip=qZ L:=rfl
theorem flag_wdsV(L:List Wd):(kq L).flag=true:=rfl
theorem strip_wdsV(L:List Wd):(kq L).strip=kq L:=rfl
section
variable {fz : Nat -> Bool} {h : wh} {n : Nat}
theorem rei_tksV(L:List Tk):rei fz h (n+1) (zy L)=zy L:=rfl
theorem rei_tkssV(L:List (List Tk)):rei fz h (n+1) (qn L)=qn L:=rfl
theorem rei_colsV(L:List (List Int)):rei fz h (n+1) (qv L)=qv L:=rfl
theorem rei_rdsV(L:List Rd):rei fz h (n+1) (jh L)=jh L:=rfl
theorem rei_unsV(L:List Un):rei fz h (n+1) (qZ L)=qZ L:=rfl
theorem rei_wdsV(L:List Wd):rei fz h (n+1) (kq L)=kq L:=rfl
theorem frz_tksV(L:List Tk):frz fz h (n+1) (zy L)=zy L:=rfl
theorem frz_tkssV(L:List (List Tk)):frz fz h (n+1) (qn L)=qn L:=rfl
theorem frz_colsV(L:List (List Int)):frz fz h (n+1) (qv L)=qv L:=rfl
theorem frz_rdsV(L:List Rd):frz fz h (n+1) (jh L)=jh L:=rfl
theorem frz_unsV(L:List Un):frz fz h (n+1) (qZ L)=qZ L:=rfl
theorem frz_wdsV(L:List Wd):frz fz h (n+1) (kq L)=kq L:=rfl
end
attribute [go_sem] flag_tksV strip_tksV flag_tkssV strip_tkssV flag_colsV strip_colsV flag_rdsV strip_rdsV flag_unsV strip_unsV flag_wdsV strip_wdsV rei_tksV rei_tkssV rei_colsV rei_rdsV rei_unsV rei_wdsV frz_tksV frz_tkssV frz_colsV frz_rdsV frz_unsV frz_wdsV
def qhY(f:Int):Bool:=f.toNat.testBit 1
def mkB(f:Int):Bool:=f.toNat.testBit 3
def qiZ(s:Str):Bool:=decide (s= [])||f6 s
def qvF(s:Str):Bool:=decide (s.length=1)&&(decide (kind (ch s 0)=5)||decide (kind (ch s 0)=4))
def ko(c:UInt8):Bool:=decide (kind c=1)||(decide (kind c=3)||(decide (kind c=2)||decide (kind c=4)))
def qvG(s:Str):Bool:=decide (s≠ [])&&(decide (s.length<=64)&&(List.range s.length).all λi=>ko (ch s i))
def txB(t:Tk):Bool:=if qhY t.flags=true then qeE t.text&&decide (t.norm=t.text) else if mkB t.flags=true then qvF t.text&&decide (t.norm=t.text) else ke t.text&&qvG t.norm
def tkE(t:Tk):Int:=
 if t.flags<0∨31<t.flags then 2 else if qhY t.flags=true∧mkB t.flags=true then 8 else if txB t=false then 11 else if t.line<0 then 2 else if qiZ t.page=false∨qiZ t.name=false then 14 else 0
def qd4(l:List Tk):Int:=if 1024<l.length then 4 else if jC (λj=>decide (tkE (l.getD j default)≠0)) l.length=true then 1 else 0
def srE(x:Co):Int:=
 if f6 x.sec=false then 14 else if x.sig.length=0 then 5 else if 32<x.sig.length then 4 else if qah (kf x.sig) 0 x.sig.length≠0 then qah (kf x.sig) 0 x.sig.length else
  if x.tok.length≠x.sig.length then 9 else qah (λi=>qd4 (x.tok.getD i [])) 0 x.tok.length
def cnC(col:List (List Int))(s:Nat):Nat->Nat
 |0=>0
 |i+1=>cnC col s i+if (col.getD i []).getD s 0= -1 then 0 else 1
def enB(tok:List (List Tk))(col:List (List Int))(i s:Nat):Bool:=
 decide ((col.getD i []).getD s 0= -1)||(decide ((col.getD i []).getD s 0=(cnC col s i:Int))&&decide ((col.getD i []).getD s 0<((tok.getD s []).length:Int)))
def qey(tok:List (List Tk))(col:List (List Int))(i:Nat):Bool:=
 decide ((col.getD i []).length=tok.length)&&(!jC (λs=> !enB tok col i s) tok.length&&jC (λs=> !decide ((col.getD i []).getD s 0= -1)) tok.length)
def alB(tok:List (List Tk))(col:List (List Int)):Bool:=
 !jC (λi=> !qey tok col i) col.length&& !jC (λs=> !decide (cnC col s col.length=(tok.getD s []).length)) tok.length
def coE(x:Co):Int:=if srE x≠0 then srE x else if alB x.tok x.col=false then 19 else 0
structure CoOk (x:Co):Prop where
 sg:0<x.sig.length∧x.sig.length<=32
 tn:x.tok.length=x.sig.length
 tl: ∀s,s<x.tok.length->(x.tok.getD s []).length<=1024
 te: ∀s,s<x.tok.length-> ∀j,j<(x.tok.getD s []).length->tkE ((x.tok.getD s []).getD j default)=0
 cl: ∀i,i<x.col.length->(x.col.getD i []).length=x.sig.length
 ce: ∀i,i<x.col.length-> ∀s,s<x.sig.length->(x.col.getD i []).getD s 0= -1∨((x.col.getD i []).getD s 0=(cnC x.col s i:Int)∧(x.col.getD i []).getD s 0<((x.tok.getD s []).length:Int))
 cs: ∀i,i<x.col.length-> ∃s,s<x.sig.length∧(x.col.getD i []).getD s 0≠ -1
 ct: ∀s,s<x.sig.length->cnC x.col s x.col.length=(x.tok.getD s []).length
theorem qag{x:Co}(h:coE x=0):CoOk x:=by
 unfold coE at h;split at h
 ·rename_i h1;exact absurd h h1
 rename_i h1;have h1:=Classical.not_not.1 h1;split at h
 ·cases h
 rename_i h2;unfold srE at h1;split at h1
 ·cases h1
 split at h1
 ·cases h1
 rename_i g2;split at h1
 ·cases h1
 rename_i g3;split at h1
 ·rename_i g4;exact absurd h1 g4
 split at h1
 ·cases h1
 rename_i g5;have g5:=Classical.not_not.1 g5;have h3:=jW.1 h1;have h2:alB x.tok x.col=true:=by simpa using h2
 unfold alB at h2;rw[Bool.and_eq_true,Bool.not_eq_true',Bool.not_eq_true',qp,qp]at h2;obtain⟨h4,h5⟩:=h2;have h6: ∀i,i<x.col.length->qey x.tok x.col i=true:=λi hi=>by simpa using h4 i hi
 have hrow: ∀s,s<x.tok.length->(x.tok.getD s []).length<=1024∧ ∀j,j<(x.tok.getD s []).length->tkE ((x.tok.getD s []).getD j default)=0:=λs hs=>by
  have:=h3 s hs
  unfold qd4 at this;split at this
  ·cases this
  rename_i k1;split at this
  ·cases this
  rename_i k2;refine⟨om,λj hj=> ?_⟩
  have:=qp.1 (by simpa using k2) j hj
  simpa using this
 refine⟨om,g5,λs hs=>(hrow s hs).1,λs hs=>(hrow s hs).2,λi hi=> ?_,λi hi s hs=> ?_,λi hi=> ?_,λs hs=> ?_⟩
 ·have:=h6 i hi
  unfold qey at this;rw[Bool.and_eq_true,decide_eq_true_iff]at this;omega
 ·have:=h6 i hi
  unfold qey at this;rw[Bool.and_eq_true,Bool.and_eq_true,Bool.not_eq_true',qp]at this
  have:=this.2.1 s om
  have this:enB x.tok x.col i s=true:=by simpa using this
  unfold enB at this;simpa[Bool.or_eq_true,Bool.and_eq_true] using this
 ·have:=h6 i hi
  unfold qey at this;rw[Bool.and_eq_true,Bool.and_eq_true]at this;obtain⟨s,hs,hv⟩:=qN.1 this.2.2;exact⟨s,om,by simpa using hv⟩
 ·have:=h5 s om
  simpa using this
end RC
end
section
open Go Go.Proofs AF
def jd:List Nat:= []
def kR:C:=
 (vU [O1 1 (.box 0 119) 0,vO 2 0] ((vU [vN 6 4 1,LD 7 6,vP 8 .lss 7 0,MV 9 8,v7 10 9 4 1,v8 11 9 10,vT 12 9 (.bin .gtr) 11 (i6 31),PT 13 9 12] (vV 13 (vX [vO 2 2]))).seq (vU [vN
 14 4 1,LD 15 14,vP 16 .and 15 2,vP 17 .neq 16 0,vN 18 4 1,LD 19 18,vP 20 .and 19 8,vP 21 .neq 20 0,MV 3 17,MV 4 21] ((vU [MV 22 3,MV 23 22,MG 24 23 true 4,PF 25 23 24] (vV 25
 (vX [vO 2 8]))).seq (vU [MC 5 (.fn (Fn.func 145) [] [])] ((vU [MV 26 3] (vV 26 (vY [MC 5 (.fn (Fn.func 256) [] [])]))).seq ((vU [MV 27 4] (vV 27 (vY [MC 5 (.fn (Fn.func 257) []
 [])]))).seq ((C.block 0 ((vU [MV 29 5,vN 30 0 1,LD 31 30,O2 32 .callv 29 31,O1 33 (.un UnOp.not) 32,MV 28 33] (C.cond (.t 28) C.skip (vU [O1 34 (.load (some 6)) 1,O1 35 (.call
 258 true) 34,MV 36 35,P1 37 36 true (.fldA 1) 1,P1 38 36 true (.load none) 37,P1 39 36 true (.call 259 true) 38,P1 40 36 true (.un UnOp.not) 39,PF 41 36 40,MV 28 41] (C.cond
 (.t 28) C.skip (vY [O1 42 (.load (some 6)) 1,O1 43 (.call 258 true) 42,O1 44 (.un UnOp.not) 43,MV 45 44,P1 46 45 true (.fldA 1) 1,P1 47 45 true (.load none) 46,P1 48 45 true
 (.fldA 0) 1,P1 49 45 true (.load none) 48,P2 50 45 true (.bin .neq) 47 49,PF 51 45 50,MV 28 51]))))).seq (C.cond (.t 28) (vX [vO 2 11]) (vU [vN 53 2 1,vN 54 1 53,LD 55 54,vP 56
 .lss 55 0,MV 52 56] (C.cond (.t 52) (vX [vO 2 2]) (vU [vN 58 2 1,vN 59 0 58,LD 60 59,O1 61 (.call 260 true) 60,O1 62 (.un UnOp.not) 61,MV 63 62,v7 64 63 5 1,v8 65 63 64,vQ 66
 63 (.call 260 true) 65,vQ 67 63 (.un UnOp.not) 66,PT 68 63 67,MV 57 68] (vV 57 (vX [vO 2 14])))))))).seq (vX [vO 2 0])))))))))
theorem jz:qG Tryz.prog 185 69 1 [RV.tmp 2] kR:=fi Tryz.f185 [1] jd []
def qdt:C:=
 (vU [MC 2 (.bool false)] ((vU [MV 5 0,O1 6 .slen 5,vP 7 .lss 6 3,MV 8 7,vS 9 8 0,vT 10 8 .sidx 9 (i6 0),vT 11 8 (.bin .neq) 10 (.int .u8 91),PT 12 8 11,MV 13 12,vS 14 13 0,vS 15
 13 0,vQ 16 13 .slen 15,vT 17 13 (.bin .sub) 16 (i6 1),vR 18 13 .sidx 14 17,vT 19 13 (.bin .neq) 18 (.int .u8 93),PT 20 13 19] (vV 20 (vX [MC 2 (.bool false)]))).seq (vU [MV 22
 0,MV 23 0,O1 24 .slen 23,vP 25 .sub 24 1,ON 26 (.sslc true true) [.t 22,.c (i6 1),.t 25],O1 27 (.call 195 true) 26,MV 21 27,O1 28 (.ext 0) 21,O1 29 (.ext 1) 21,MV 3 28,MV 4 29]
 (vX [MV 30 4,O1 31 (.isnil .iface false) 30,MV 32 31,MG 33 32 true 3,PC 34 32 true (.bin .geq) 33 (i6 1),PF 35 32 34,MV 36 35,MG 37 36 true 3,PC 38 36 true (.bin .leq) 37 (i6
 64),PF 39 36 38,MV 40 39,MG 41 40 true 0,MG 42 40 true 3,P1 43 40 true (.call 116 true) 42,PN 44 40 true (.bin .add) [.c (.str [91]),.t 43],PC 45 40 true (.bin .add) 44 (.str
 [93]),P2 46 40 true (.bin .eql) 41 45,PF 47 40 46,MV 2 47]))))
theorem qbB:qG Tryz.prog 256 48 0 [RV.tmp 2] qdt:=fi Tryz.f256 [] jd []
def qoe:C:=
 (vU [MC 2 (.bool false)] ((vU [MV 4 0,O1 5 .slen 4,vP 6 .neq 5 1] (vV 6 (vX [MC 2 (.bool false)]))).seq (vU [MV 7 0,OC 8 .sidx 7 (i6 0),O1 9 (.call 220 true) 8,MV 3 9] (vX [MV
 10 3,vP 11 .eql 10 5,MV 12 11,vS 13 12 3,vT 14 12 (.bin .eql) 13 (i6 4),PT 15 12 14,MV 2 15]))))
theorem qk2:qG Tryz.prog 257 16 0 [RV.tmp 2] qoe:=fi Tryz.f257 [] jd []
def qwQ:C:=
 (vU [O1 1 (.box 0 119) 0,MC 2 (.bool false)] (vX [vN 3 4 1,LD 4 3,vP 5 .and 4 10,vP 6 .eql 5 0,MV 2 6]))
theorem qyR:qG Tryz.prog 258 7 1 [RV.tmp 2] qwQ:=fi Tryz.f258 [1] jd []
def qwR:C:=
 (vU [MC 2 (.bool false)] ((vU [MV 4 0,O1 5 .slen 4,vO 6 0] (C.block 0 (vU [BI 7 .lss 6 5] ((vW 7 0).seq ((C.block 1 (vU [MV 8 6,MV 3 8] (vU [MV 9 0,MV 10 3,O2 11 .sidx 9 10,O1
 12 (.call 309 true) 11,O1 13 (.un UnOp.not) 12] (vV 13 (vX [MC 2 (.bool false)]))))).seq (vY [vP 14 .add 6 1,MV 6 14])))).loop)).seq (vX [MV 15 0,BC 16 .neq 15 (.str []),MV 17
 16,MG 18 17 true 0,P1 19 17 true .slen 18,PC 20 17 true (.bin .leq) 19 (i6 64),PF 21 17 20,MV 2 21])))
theorem qyS:qG Tryz.prog 259 22 0 [RV.tmp 2] qwR:=fi Tryz.f259 [] jd []
def qsx:C:=
 (vU [MC 2 (.bool false)] (vX [MV 3 0,BC 4 .eql 3 (.str []),MV 5 4,vS 6 5 0,vQ 7 5 (.call 181 true) 6,PT 8 5 7,MV 2 8]))
theorem qru:qG Tryz.prog 260 9 0 [RV.tmp 2] qsx:=fi Tryz.f260 [] jd []
def qoh:C:=
 (vU [MC 2 (.bool false)] (vU [MV 4 0,O1 5 (.call 220 true) 4,MV 3 5] (vX [MV 6 0,O1 7 (.call 357 true) 6,MV 8 7,vS 9 8 3,vT 10 8 (.bin .eql) 9 (i6 2),PT 11 8 10,MV 12 11,vS 13
 12 3,vT 14 12 (.bin .eql) 13 (i6 4),PT 15 12 14,MV 2 15])))
theorem qk6:qG Tryz.prog 309 16 0 [RV.tmp 2] qoh:=fi Tryz.f309 [] jd []
def qsF:C:=
 (vU [MC 2 (.bool false)] (vU [MV 4 0,O1 5 (.call 220 true) 4,MV 3 5] (vX [MV 6 3,vP 7 .eql 6 1,MV 8 7,vS 9 8 3,vT 10 8 (.bin .eql) 9 (i6 3),PT 11 8 10,MV 2 11])))
theorem qrC:qG Tryz.prog 357 12 0 [RV.tmp 2] qsF:=fi Tryz.f357 [] jd []
def qCB:C:=
 (vU [O1 1 (.box 0 26) 0,vO 2 0] ((vU [vN 4 0 1,LD 5 4,vN 6 1 1,LD 7 6,vN 8 2 1,LD 9 8,ON 10 (.call 111 true) [.t 5,.t 7,.t 9],MV 3 10] (vU [MV 11 3,vP 12 .neq 11 0] (vV 12 (vX
 [MV 13 3,MV 2 13])))).seq ((vU [vN 14 2 1,LD 15 14,vN 16 3 1,LD 17 16,O2 18 (.call 112 true) 15 17,vP 19 .neq 18 0] (vV 19 (vX [vO 2 19]))).seq (vX [vO 2 0]))))
theorem qzG:qG Tryz.prog 47 20 1 [RV.tmp 2] qCB:=fi Tryz.f47 [1] jd []
def qjX:C:=
 (vU [vO 6 0] ((C.block 0 (vU [MV 12 0,O1 13 (.call 181 true) 12,O1 14 (.un UnOp.not) 13,MV 11 14] (C.cond (.t 11) (vX [vO 6 14]) (vU [MV 16 1,O1 17 .len 16,vP 18 .eql 17 0,MV 15
 18] (C.cond (.t 15) (vX [vO 6 5]) (vU [MV 20 1,O1 21 .len 20,vP 22 .gtr 21 32,MV 19 22] (vV 19 (vX [vO 6 4])))))))).seq ((vU [MV 23 1,O1 24 .len 23,vO 25 0] (C.block 1 (vU [BI
 26 .lss 25 24] ((vW 26 1).seq ((C.block 2 (vU [MV 27 25,O2 28 (.idxA 1) 23 25,LD 29 28,MV 7 27,MV 8 29] ((vU [MV 30 8,O1 31 (.call 182 true) 30,O1 32 (.un UnOp.not) 31] (vV 32
 (vX [vO 6 14]))).seq (vU [MV 33 1,MV 34 7,O2 35 (.slc 1 false true) 33 34,MV 36 8,O2 37 (.call 128 true) 35 36] (vV 37 (vX [vO 6 7])))))).seq (vY [vP 38 .add 25 1,MV 25
 38])))).loop)).seq ((vU [MV 39 2,O1 40 .len 39,MV 41 1,O1 42 .len 41,BI 43 .neq 40 42] (vV 43 (vX [vO 6 9]))).seq ((vU [MV 44 2,O1 45 .len 44,vO 46 0] (C.block 3 (vU [BI 47
 .lss 46 45] ((vW 47 3).seq ((C.block 4 (vU [O2 48 (.idxA 1) 44 46,LD 49 48,MV 10 49] ((vU [MV 50 10,O1 51 .len 50,vP 52 .gtr 51 1024] (vV 52 (vX [vO 6 4]))).seq (vU [MV 53
 10,OC 54 (.call 183 true) 53 (.fn (Fn.func 184) [] [])] (vV 54 (vX [vO 6 1])))))).seq (vY [vP 55 .add 46 1,MV 46 55])))).loop)).seq (vX [vO 6 0]))))))
theorem qgH:qG Tryz.prog 111 56 0 [RV.tmp 6] qjX:=fi Tryz.f111 [] jd []
def qwp:C:=
 (vU [O1 1 (.box 0 119) 0,MC 2 (.bool false)] (vX [O1 3 (.load (some 6)) 1,O1 4 (.call 185 true) 3,vP 5 .neq 4 0,MV 2 5]))
theorem qyp:qG Tryz.prog 184 6 1 [RV.tmp 2] qwp:=fi Tryz.f184 [1] jd []
def qj1:C:=
 (vU [MC 2 (.bool false)] (vU [MV 6 0,OC 7 (.call 254 true) 6 (.str [42]),MV 5 7,O1 8 (.ext 0) 5,O1 9 (.ext 1) 5,MV 3 8,MV 4 9] (vX [MV 10 3,O1 11 (.call 181 true) 10,MV 12 11,MG
 13 12 true 4,P1 14 12 true (.un UnOp.not) 13,MG 15 12 true 14,vS 16 15 0,vQ 17 15 .slen 16,vT 18 15 (.bin .leq) 17 (i6 16),QT 19 12 true 15 18,PF 20 12 19,MV 2 20])))
theorem qgL:qG Tryz.prog 182 21 0 [RV.tmp 2] qj1:=fi Tryz.f182 [] jd []
def qwq:C:=
 (vU [vO 2 0] ((C.block 0 (vU [MV 4 0,O1 5 .len 4,vP 6 .eql 5 0,MV 3 6] (C.cond (.t 3) (vX [vO 2 5]) (vU [MV 8 0,O1 9 .len 8,vP 10 .gtr 9 32,MV 11 10,vS 12 11 0,vT 13 11 (.call
 261 true) 12 (.fn (Fn.func 262) [] []),PT 14 11 13,MV 7 14] (vV 7 (vX [vO 2 4])))))).seq (vX [vO 2 0])))
theorem qyq:qG Tryz.prog 186 15 0 [RV.tmp 2] qwq:=fi Tryz.f186 [] jd []
def qwS:C:=
 (vU [MC 2 (.bool false)] (vX [MV 3 0,O1 4 .len 3,vP 5 .gtr 4 1024,MV 2 5]))
theorem qyU:qG Tryz.prog 262 6 0 [RV.tmp 2] qwS:=fi Tryz.f262 [] jd []
def qv7:C:=
 (vU [vO 4 0] ((vU [MV 6 0,O1 7 (.call 186 true) 6,MV 5 7] (vU [MV 8 5,vP 9 .neq 8 0] (vV 9 (vX [MV 10 5,MV 4 10])))).seq ((vU [MV 11 0,MV 12 1,O2 13 (.call 187 true) 11 12,O1 14
 (.un UnOp.not) 13] (vV 14 (vX [vO 4 19]))).seq (vX [vO 4 0]))))
theorem qx4:qG Tryz.prog 112 15 0 [RV.tmp 4] qv7:=fi Tryz.f112 [] jd []
def qwr:C:=
 (vU [MC 4 (.bool false)] (vU [MV 12 0,O1 13 .len 12,⟨some 14,none,.mkslc 0 1 3 [i6 0] 8,[.t 13,.t 13]⟩,MV 5 14] ((vU [MV 15 1,O1 16 .len 15,vO 17 0] (C.block 0 (vU [BI 18 .lss
 17 16] ((vW 18 0).seq ((C.block 1 (vU [O2 19 (.idxA 1) 15 17,LD 20 19,MV 7 20] ((vU [MV 21 7,O1 22 .len 21,MV 23 0,O1 24 .len 23,BI 25 .neq 22 24] (vV 25 (vX [MC 4 (.bool
 false)]))).seq (vU [MC 8 (.bool false)] ((vU [MV 26 7,O1 27 .len 26,vO 28 0] (C.block 2 (vU [BI 29 .lss 28 27] ((vW 29 2).seq ((C.block 3 (vU [MV 30 28,O2 31 (.idxA 1) 26 28,LD
 32 31,MV 9 30,MV 10 32] ((vU [MV 33 10,BC 34 .eql 33 (i6 (-1))] (vV 34 (C.exit 3))).seq ((vU [MV 35 10,MV 36 5,MV 37 9,O2 38 (.idxA 1) 36 37,LD 39 38,BI 40 .neq 35 39,MV 41
 40,vS 42 41 10,vS 43 41 0,vS 44 41 9,vR 45 41 (.idxA 1) 43 44,v8 46 41 45,vQ 47 41 .len 46,vR 48 41 (.bin .geq) 42 47,PT 49 41 48] (vV 49 (vX [MC 4 (.bool false)]))).seq (vU
 [MV 50 5,MV 51 9,O2 52 (.idxA 1) 50 51,LD 53 52,vP 54 .add 53 1,O2 55 (.idxA 1) 50 51,ST 1 55 54] (vY [MC 8 (.bool true)])))))).seq (vY [vP 56 .add 28 1,MV 28
 56])))).loop)).seq (vU [MV 57 8,O1 58 (.un UnOp.not) 57] (vV 58 (vX [MC 4 (.bool false)])))))))).seq (vY [vP 59 .add 17 1,MV 17 59])))).loop)).seq ((vU [MV 60 0,O1 61 .len
 60,vO 62 0] (C.block 4 (vU [BI 63 .lss 62 61] ((vW 63 4).seq ((C.block 5 (vU [MV 64 62,MV 11 64] (vU [MV 65 5,MV 66 11,O2 67 (.idxA 1) 65 66,LD 68 67,MV 69 0,MV 70 11,O2 71
 (.idxA 1) 69 70,LD 72 71,O1 73 .len 72,BI 74 .neq 68 73] (vV 74 (vX [MC 4 (.bool false)]))))).seq (vY [vP 75 .add 62 1,MV 62 75])))).loop)).seq (vX [MC 4 (.bool true)])))))
theorem qyr:qG Tryz.prog 187 76 1 [RV.tmp 4] qwr:=fi Tryz.f187 [14] jd []
def qCx:C:=
 (vU [O1 1 (.box 0 26) 0,vO 2 0] ((vU [vN 10 0 1,LD 11 10,vN 12 1 1,LD 13 12,vN 14 2 1,LD 15 14,ON 16 (.call 60 true) [.t 11,.t 13,.t 15],MV 3 16] (vU [MV 17 3,vP 18 .neq 17 0]
 (vV 18 (vX [MV 19 3,MV 2 19])))).seq (vU [vN 20 1 1,LD 21 20,O1 22 .len 21,⟨some 23,none,.mkslc 1 1 3 [i6 0] 8,[.t 22,.t 22]⟩,MV 4 23] ((vU [vO 5 0] (C.block 0 ((vU [MV 24 5,vN
 25 3 1,LD 26 25,O1 27 .len 26,BI 28 .lss 24 27] (vW 28 0)).seq ((C.block 1 (vU [vN 31 3 1,LD 32 31,MV 33 5,O2 34 (.idxA 1) 32 33,LD 35 34,MV 6 35] ((vU [MV 36 6,O1 37 .len
 36,MV 38 4,O1 39 .len 38,BI 40 .neq 37 39] (vV 40 (vX [vO 2 19]))).seq (vU [MC 7 (.bool false)] ((vU [vO 8 0] (C.block 2 ((v6 41 8 6 2).seq ((C.block 3 ((vU [MV 47 6,MV 48 8,O2
 49 (.idxA 1) 47 48,LD 50 49,BC 51 .eql 50 (i6 (-1))] (vV 51 (C.exit 3))).seq ((vU [MV 52 6,MV 53 8,O2 54 (.idxA 1) 52 53,LD 55 54,MV 56 4,MV 57 8,O2 58 (.idxA 1) 56 57,LD 59
 58,BI 60 .neq 55 59,MV 61 60,vS 62 61 6,vS 63 61 8,vR 64 61 (.idxA 1) 62 63,v8 65 61 64,v7 66 61 2 1,v8 67 61 66,vS 68 61 8,vR 69 61 (.idxA 1) 67 68,v8 70 61 69,vQ 71 61 .len
 70,vR 72 61 (.bin .geq) 65 71,PT 73 61 72] (vV 73 (vX [vO 2 19]))).seq (vU [MV 74 4,MV 75 8,O2 76 (.idxA 1) 74 75,LD 77 76,vP 78 .add 77 1,O2 79 (.idxA 1) 74 75,ST 1 79 78] (vY
 [MC 7 (.bool true)]))))).seq (vZ 45 8))).loop)).seq (vU [MV 80 7,O1 81 (.un UnOp.not) 80] (vV 81 (vX [vO 2 19])))))))).seq (vZ 29 5))).loop)).seq ((vU [vO 9 0] (C.block 4 ((v6
 82 9 4 4).seq ((C.block 5 (vU [MV 88 4,MV 89 9,O2 90 (.idxA 1) 88 89,LD 91 90,vN 92 2 1,LD 93 92,MV 94 9,O2 95 (.idxA 1) 93 94,LD 96 95,O1 97 .len 96,BI 98 .neq 91 97] (vV 98
 (vX [vO 2 19])))).seq (vZ 86 9))).loop)).seq (vX [vO 2 0]))))))
theorem qx3:qG Tryz.prog 10 99 2 [RV.tmp 2] qCx:=fi Tryz.f10 [1,23] jd []
def qxA:C:=
 (vU [vO 6 0] ((vU [MV 11 0,O1 12 (.call 136 true) 11,O1 13 (.un UnOp.not) 12] (vV 13 (vX [vO 6 14]))).seq ((vU [MV 14 1,O1 15 .len 14,vP 16 .eql 15 0] (vV 16 (vX [vO 6 5]))).seq
 ((vU [MV 17 1,O1 18 .len 17,vP 19 .gtr 18 32] (vV 19 (vX [vO 6 4]))).seq ((vU [vO 7 0] (C.block 0 ((v6 20 7 1 0).seq ((C.block 1 ((vU [MV 26 1,MV 27 7,O2 28 (.idxA 1) 26 27,LD
 29 28,O1 30 (.call 137 true) 29,O1 31 (.un UnOp.not) 30] (vV 31 (vX [vO 6 14]))).seq (vU [vO 8 0] (C.block 2 ((vU [MV 32 8,MV 33 7,BI 34 .lss 32 33] (vW 34 2)).seq ((C.block 3
 (vU [MV 37 1,MV 38 8,O2 39 (.idxA 1) 37 38,LD 40 39,MV 41 1,MV 42 7,O2 43 (.idxA 1) 41 42,LD 44 43,BI 45 .eql 40 44] (vV 45 (vX [vO 6 7])))).seq (vZ 35 8))).loop)))).seq (vZ 24
 7))).loop)).seq ((vU [MV 46 2,O1 47 .len 46,MV 48 1,O1 49 .len 48,BI 50 .neq 47 49] (vV 50 (vX [vO 6 9]))).seq ((vU [vO 9 0] (C.block 4 ((v6 51 9 2 4).seq ((C.block 5 ((vU [MV
 57 2,MV 58 9,O2 59 (.idxA 1) 57 58,LD 60 59,O1 61 .len 60,vP 62 .gtr 61 1024] (vV 62 (vX [vO 6 4]))).seq (vU [vO 10 0] (C.block 6 ((vU [MV 63 10,MV 64 2,MV 65 9,O2 66 (.idxA 1)
 64 65,LD 67 66,O1 68 .len 67,BI 69 .lss 63 68] (vW 69 6)).seq ((C.block 7 (vU [MV 72 2,MV 73 9,O2 74 (.idxA 1) 72 73,LD 75 74,MV 76 10,O2 77 (.idxA 6) 75 76,O1 78 (.load (some
 6)) 77,O1 79 (.call 138 true) 78,vP 80 .neq 79 0] (vV 80 (vX [vO 6 1])))).seq (vZ 70 10))).loop)))).seq (vZ 55 9))).loop)).seq (vX [vO 6 0]))))))))
theorem qo1:qG Tryz.prog 60 81 0 [RV.tmp 6] qxA:=fi Tryz.f60 [] jd []
def qjY:C:=
 (vU [MC 2 (.bool false)] ((vU [MV 4 0,O1 5 .slen 4,MV 3 5] (vU [MV 6 3,vP 7 .gtr 6 0,MV 8 7,MG 9 8 true 0,MG 10 8 true 3,PC 11 8 true (.bin .sub) 10 (i6 1),P2 12 8 true .sidx 9
 11,PC 13 8 true (.bin .eql) 12 (.int .u8 42),PF 14 8 13] (vV 14 (vX [MV 15 3,vP 16 .leq 15 16,MV 17 16,MG 18 17 true 0,MG 19 17 true 3,PC 20 17 true (.bin .sub) 19 (i6 1),P2 21
 17 true (.sslc false true) 18 20,P1 22 17 true (.call 136 true) 21,PF 23 17 22,MV 2 23])))).seq (vX [MV 24 0,O1 25 (.call 136 true) 24,MV 2 25])))
theorem qgI:qG Tryz.prog 137 26 0 [RV.tmp 2] qjY:=fi Tryz.f137 [] jd []
end
section
open Go Go.Proofs AF HY LN
namespace RC
theorem qDL(s:Str)(h:wh)(hs:s.length<=1000000000):ACalls Tryz.prog 260 [.str s] h (.bool (qiZ s)) h:=by
 have c1:=λh=>t44 s h hs
 unfold qiZ
 by_cases g:s= []
 ·subst g;rw[dqt rfl,Bool.true_or];refine acO qru ?_;simp (disch:=omega) only[qsx,go_sem]
  repeat' first|(refine qj ( .bool false) ?_;simp (disch:=omega) only[go_sem])|exact wc|fail
 ·have k1:(s= [])=False:=eqf g;rw[dqf g,Bool.false_or];refine acO qru ?_;simp (disch:=omega) only[qsx,k1,go_sem]
  repeat' first|(refine cG (λe=>c1 _) flk ?_;simp (disch:=omega) only[go_sem])|exact wc|fail
theorem qF2(s:Str)(h:wh)(hs:s.length<=1000000000):ACalls Tryz.prog 257 [.str s] h (.bool (qvF s)) h:=by
 unfold qvF
 by_cases g:s.length=1
 ·have k1:((s.length:Int)=1)=True:=wj;have k2:((0:Int)<s.length)=True:=wj;have e:(s[0]?).getD 0=ch s 0:=by simp[ch,gdqA]
  have c5:=λh=>qbY (ch s 0) h
  rw[dqt g,Bool.true_and];obtain⟨k,hk⟩:=wg (kind (ch s 0))
  rw[<-hk]at c5 ⊢
  by_cases g1:k=5
  ·have q1:(k=5)=True:=eqt g1;rw[dqt g1,Bool.true_or];refine acO qk2 ?_;simp (disch:=omega) only[qoe,k1,go_sem]
   repeat' first|(refine cA (c5 _) flk ?_;simp (disch:=omega) only[e,q1,go_sem])|exact wc|with_reducible apply aiA|exact clz|fail
  ·have q1:(k=5)=False:=eqf g1;rw[dqf g1,Bool.false_or];refine acO qk2 ?_;simp (disch:=omega) only[qoe,k1,go_sem]
   repeat' first|(refine cA (c5 _) flk ?_;simp (disch:=omega) only[e,q1,go_sem])|exact wc|with_reducible apply aiA|exact clz|fail
 ·have k1:((s.length:Int)=1)=False:=wl;rw[dqf g,Bool.false_and];refine acO qk2 ?_;simp (disch:=omega) only[qoe,k1,go_sem]
  repeat' first|exact wc|fail
theorem qCc(c:UInt8)(h:wh):ACalls Tryz.prog 357 [.int .u8 (c.toNat:Int)] h (.bool (decide (kind c=1)||decide (kind c=3))) h:=by
 have c5:=λh=>qbY c h
 obtain⟨k,hk⟩:=wg (kind c)
 rw[<-hk]at c5 ⊢
 by_cases g1:k=1
 ·have q1:(k=1)=True:=eqt g1;rw[dqt g1,Bool.true_or];refine acO qrC ?_;simp (disch:=omega) only[qsF,go_sem]
  repeat' first|(refine cA (c5 _) flk ?_;simp (disch:=omega) only[q1,go_sem])|exact wc|fail
 ·have q1:(k=1)=False:=eqf g1;rw[dqf g1,Bool.false_or];refine acO qrC ?_;simp (disch:=omega) only[qsF,go_sem]
  repeat' first|(refine cA (c5 _) flk ?_;simp (disch:=omega) only[q1,go_sem])|exact wc|fail
theorem qCi(c:UInt8)(h:wh):ACalls Tryz.prog 309 [.int .u8 (c.toNat:Int)] h (.bool (ko c)) h:=by
 have c5:=λh=>qbY c h
 have c6:=λh=>qCc c h
 unfold ko;rw[<-Bool.or_assoc];obtain⟨k,hk⟩:=wg (kind c)
 rw[<-hk]at c5 c6 ⊢;obtain⟨b,hb⟩:=wg ((decide (k=1)||decide (k=3)))
 rw[<-hb]at c6 ⊢;cases b with
 |true=>
  rw[Bool.true_or];refine acO qk6 ?_;simp (disch:=omega) only[qoh,go_sem]
  repeat' first|((first|refine cA (c5 _) ?_ ?_|refine cA (c6 _) ?_ ?_);exact flk;simp (disch:=omega) only[go_sem])|exact wc|fail
 |false=>
  rw[Bool.false_or]
  by_cases g1:k=2
  ·have q1:(k=2)=True:=eqt g1;rw[dqt g1,Bool.true_or];refine acO qk6 ?_;simp (disch:=omega) only[qoh,go_sem]
   repeat' first|((first|refine cA (c5 _) ?_ ?_|refine cA (c6 _) ?_ ?_);exact flk;simp (disch:=omega) only[q1,go_sem])|exact wc|fail
  ·have q1:(k=2)=False:=eqf g1;rw[dqf g1,Bool.false_or];refine acO qk6 ?_;simp (disch:=omega) only[qoh,go_sem]
   repeat' first|((first|refine cA (c5 _) ?_ ?_|refine cA (c6 _) ?_ ?_);exact flk;simp (disch:=omega) only[q1,go_sem])|exact wc|fail
theorem qDN(s:Str)(h:wh)(hs:s.length<=1000000000):ACalls Tryz.prog 259 [.str s] h (.bool (qvG s)) h:=by
 obtain⟨R,hR⟩:=wg (qvG s)
 rw[<-hR];unfold qvG at hR;refine acO qyS ?_;simp (disch:=omega) only[qwR,go_sem];refine qk (T:=λi:Nat=>qP 22 [(0,.str s),(5,.int .i64 s.length),(6,.int .i64 i)]) (H:=λ_=>h) (inv:=λi=>i<=s.length∧ ∀j,j<i->ko (ch s j)=true) (m:=λi=>s.length-i) 0 ⟨nzl _,λj hj=>by omega⟩ (Wk.temps ?_) ?_
 ·(simp only[go_sem,qf,qc,qa,qe];try exact we)
 rintro i ⟨i1,i2⟩ K hK
 by_cases hi:i<s.length
 ·have k1:((i:Int)<s.length)=True:=wj;have e:(s[i]?).getD 0=ch s i:=by simp[ch,gdqA]
  have c1:=λh=>qCi (ch s i) h
  cases g:ko (ch s i)with
  |false=>
   rw[g]at c1;have hV:R=false:=by
    have:((List.range s.length).all λi=>ko (ch s i))=false:=by
     rw[List.all_eq_false];exact⟨i,List.mem_range.2 hi,by simp[g]⟩
    rw[hR,this,Bool.and_false,Bool.and_false]
   rw[hV];simp (disch:=omega) only[k1,e,go_sem]
   repeat' first|(refine cA (c1 _) flk ?_;simp (disch:=omega) only[go_sem])|exact wc|with_reducible apply aiA|exact clz|fail
  |true=>
   rw[g]at c1;simp (disch:=omega) only[k1,e,go_sem]
   repeat' first|(refine cA (c1 _) flk ?_;simp (disch:=omega) only[go_sem])|with_reducible apply aiA|exact clz|fail
   refine hK _ _ (i+1) ⟨hi,λj hj=> ?_⟩ om (Wk.temps ?_)
   ·by_cases e':j=i
    ·subst e';exact g
    ·exact i2 j om
   ·(simp only[go_sem,qf,qc,qa,qe];try exact we)
 ·have k1:((i:Int)<s.length)=False:=wl;have hA:((List.range s.length).all λi=>ko (ch s i))=true:=by
   rw[List.all_eq_true];intro j hj;exact i2 j (by have:=List.mem_range.1 hj;omega)
  rw[hA,Bool.and_true]at hR
  by_cases g:s= []
  ·have q1:(s= [])=True:=eqt g;rw[hR,dqf (λh=>h g),Bool.false_and];simp (disch:=omega) only[k1,q1,go_sem]
   repeat' first|exact wc|fail
  ·have q1:(s= [])=False:=eqf g;have q2:decide ((s.length:Int)<=64)=decide (s.length<=64):=decide_eq_decide.2 om;rw[hR,dqt (show s≠ []from g),Bool.true_and];simp (disch:=omega) only[k1,q1,q2,go_sem]
   repeat' first|exact wc|fail
theorem qtP{k:Nat}:1<=(Lib.itoa (k:Int)).length:=by
 rw[Lib.itoa_nonneg]
 by_cases g:k<10
 ·rw[Lib.decDigits,dif_pos g];simp
 ·rw[Lib.decDigits,dif_neg g];simp
theorem qz1{s:Str}(h:qeE s=true):3<=s.length∧((s[0]?).getD 0).toNat=91∧((s[s.length-1]?).getD 0).toNat=93∧ ∃v:Int,Lib.atoiAll ((s.drop 1).take (s.length-1-1))= .ok v∧1<=v∧v<=64∧s=91::(Lib.itoa v++ [93]):=by
 unfold qeE at h;rw[List.any_eq_true]at h;obtain⟨k,hk,e⟩:=h;have hk':k<64:=by simpa using hk
 have e:=of_decide_eq_true e;have hl:=qtP (k:=k+1);obtain⟨t,ht⟩:=wg (Lib.itoa ((k+1:Nat):Int))
 rw[<-ht]at e hl;have ha:Lib.atoiAll t= .ok ((k+1:Nat):Int):=by rw[ht];exact qi8 om om
 have e1:s.length=t.length+2:=by rw[e];simp
 refine⟨om,by rw[e];rfl,?_,((k+1:Nat):Int),?_,om,om,by rw[<-ht];exact e⟩
 ·rw[e1,e,show t.length+2-1=t.length+1 by omega,List.getElem?_cons_succ,List.getElem?_append_right (nlr _),Nat.sub_self];rfl
 ·rw[<-ha,e1,e];congr 1;simp
theorem qz2{s:Str}{v:Int}(h1:1<=v)(h2:v<=64)(e:s=91::(Lib.itoa v++ [93])):qeE s=true:=by
 unfold qeE;rw[List.any_eq_true];refine⟨v.toNat-1,by simp;omega,dqt ?_⟩;rw[show ((v.toNat-1+1:Nat):Int)=v by omega];exact e
theorem qFJ(s:Str)(h:wh)(hs:s.length<=1000000000)(hp:cb SG h):ACalls Tryz.prog 256 [.str s] h (.bool (qeE s)) h:=by
 have hF:= @qz1 s;have hM:= @qz2 s;obtain⟨R,hR⟩:=wg (qeE s)
 rw[<-hR]at hF hM ⊢;have hV: ¬(R=true)->R=false:=by cases R<;>simp
 by_cases g0:s.length<3
 ·have k0:((s.length:Int)<3)=True:=wj;rw[hV (λc=>by have:=(hF c).1;omega)];refine acO qbB ?_;simp (disch:=omega) only[qdt,k0,go_sem]
  repeat' first|exact wc|fail
 have k0:((s.length:Int)<3)=False:=wl;have k1:((0:Int)<s.length)=True:=wj;have k2:((s.length:Int)-1).toNat=s.length-1:=by omega
 have k3:(0<=(s.length:Int)-1)=True:=wj;have k4:((s.length:Int)-1<=s.length)=True:=wj;have k5:((s.length:Int)-1<s.length)=True:=wj;have k6:((1:Int)<=(s.length:Int)-1)=True:=wj;obtain⟨m,hm⟩:=wg ((s.drop 1).take (s.length-1-1))
 have hml:m.length<=s.length:=by rw[hm];simp;omega
 have em:=hm.symm;rw[em]at hF;obtain⟨a,ha⟩:=wg ((s[0]?).getD 0)
 obtain⟨b,hb⟩:=wg ((s[s.length-1]?).getD 0)
 have ea:=ha.symm;have eb:=hb.symm;rw[ea,eb]at hF
 by_cases g1:a.toNat=91
 case neg=>
  have q1:((a.toNat:Int)=91)=False:=wl;rw[hV (λc=>g1 (hF c).2.1)];refine acO qbB ?_;simp (disch:=omega) only[qdt,k0,k1,k2,k3,k4,k5,k6,em,ea,eb,q1,Int.toNat_zero,Int.toNat_one,go_sem]
  repeat' first|exact wc|with_reducible apply aiA|exact clz|fail
 have q1:((a.toNat:Int)=91)=True:=wj
 by_cases g2:b.toNat=93
 case neg=>
  have q2:((b.toNat:Int)=93)=False:=wl;rw[hV (λc=>g2 (hF c).2.2.1)];refine acO qbB ?_;simp (disch:=omega) only[qdt,k0,k1,k2,k3,k4,k5,k6,em,ea,eb,q1,q2,Int.toNat_zero,Int.toNat_one,go_sem]
  repeat' first|exact wc|with_reducible apply aiA|exact clz|fail
 have q2:((b.toNat:Int)=93)=True:=wj;have c180:=t50 m h (SG.err hp) om;unfold qsf at c180;cases hA:Lib.atoiAll m
 case ok v=>
  rw[hA]at c180 hF;simp only at c180;obtain⟨r1,r2⟩:=qnY hA;have c181:=t48 v h (SG.pow hp) r1 r2;obtain⟨t,ht⟩:=wg (Lib.itoa v)
  rw[<-ht]at c181
  by_cases g3:1<=v
  case neg=>
   have q3:(1<=v)=False:=eqf g3;rw[hV (λc=>by obtain⟨_,_,_,w,e,w1,_⟩:=hF c;cases e;exact g3 w1)];refine acO qbB ?_;simp (disch:=omega) only[qdt,k0,k1,k2,k3,k4,k5,k6,em,ea,eb,q1,q2,Int.toNat_zero,Int.toNat_one,go_sem]
   repeat' first|(refine qj ( .str []) ?_;simp (disch:=omega) only[go_sem])|(refine cA (c180) flk ?_;simp (disch:=omega) only[q3,go_sem])|exact wc|(with_reducible first|intro _|apply aiA)|exact clz|fail
  have q3:(1<=v)=True:=eqt g3
  by_cases g4:v<=64
  case neg=>
   have q4:(v<=64)=False:=eqf g4;rw[hV (λc=>by obtain⟨_,_,_,w,e,_,w2,_⟩:=hF c;cases e;exact g4 w2)];refine acO qbB ?_;simp (disch:=omega) only[qdt,k0,k1,k2,k3,k4,k5,k6,em,ea,eb,q1,q2,Int.toNat_zero,Int.toNat_one,go_sem]
   repeat' first|(refine qj ( .str []) ?_;simp (disch:=omega) only[go_sem])|(refine cA (c180) flk ?_;simp (disch:=omega) only[q3,q4,go_sem])|exact wc|with_reducible apply aiA|exact clz|fail
  have q4:(v<=64)=True:=eqt g4
  by_cases g5:s=91::(t++ [93])
  ·have q5:(s=91::(t++ [93]))=True:=eqt g5;have htl:t.length<=9:=by
    obtain⟨n,rfl⟩: ∃n:Nat,v=n:=⟨v.toNat,om⟩
    rw[ht];exact qfN om
   rw[hM g3 g4 (by rw[<-ht];exact g5)];refine acO qbB ?_;simp (disch:=omega) only[qdt,k0,k1,k2,k3,k4,k5,k6,em,ea,eb,q1,q2,Int.toNat_zero,Int.toNat_one,go_sem]
   repeat' first|((first|refine cA (c180) ?_ ?_|refine cG (λe=>c181) ?_ ?_);exact flk;simp (disch:=omega) only[q3,q4,q5,go_sem])|exact wc|with_reducible apply aiA|exact clz|fail
  ·have q5:(s=91::(t++ [93]))=False:=eqf g5;have htl:t.length<=9:=by
    obtain⟨n,rfl⟩: ∃n:Nat,v=n:=⟨v.toNat,om⟩
    rw[ht];exact qfN om
   rw[hV (λc=>by obtain⟨_,_,_,w,e,_,_,w3⟩:=hF c;cases e;exact g5 (by rw[ht];exact w3))];refine acO qbB ?_;simp (disch:=omega) only[qdt,k0,k1,k2,k3,k4,k5,k6,em,ea,eb,q1,q2,Int.toNat_zero,Int.toNat_one,go_sem]
   repeat' first|((first|refine cA (c180) ?_ ?_|refine cG (λe=>c181) ?_ ?_);exact flk;simp (disch:=omega) only[q3,q4,q5,go_sem])|exact wc|with_reducible apply aiA|exact clz|fail
 all_goals
  rw[hA]at c180 hF;simp only at c180;rw[hV (λc=>by obtain⟨_,_,_,w,e,_⟩:=hF c;cases e)];refine acO qbB ?_;simp (disch:=omega) only[qdt,k0,k1,k2,k3,k4,k5,k6,em,ea,eb,q1,q2,Int.toNat_zero,Int.toNat_one,go_sem]
  repeat' first|(refine qj ( .str []) ?_;simp (disch:=omega) only[go_sem])|(refine cA (c180) flk ?_;simp (disch:=omega) only[go_sem])|exact wc|(with_reducible first|intro _|apply aiA)|exact clz|fail
theorem qCo: ∀f:Nat,f<32->qnI .i64 (f:Int) 2=if f.testBit 1 then 2 else 0:=by decide+kernel
theorem qCp: ∀f:Nat,f<32->qnI .i64 (f:Int) 8=if f.testBit 3 then 8 else 0:=by decide+kernel
theorem qvU: ∀f:Nat,f<32->qnI .i64 (f:Int) 10=(if f.testBit 1 then 2 else 0)+if f.testBit 3 then 8 else 0:=by decide+kernel
theorem qE2(t:Tk)(f:Nat)(h:wh)(hf:t.flags=f)(hf2:f<32):ACalls Tryz.prog 258 [.agg (tkC t)] h (.bool (!qhY t.flags&& !mkB t.flags)) h:=by
 have e1:=qvU f hf2;have eg:qhY t.flags=f.testBit 1:=by unfold qhY;rw[hf,itn]
 have ek:mkB t.flags=f.testBit 3:=by unfold mkB;rw[hf,itn]
 rw[eg,ek];cases g1:f.testBit 1<;>cases g2:f.testBit 3<;>rw[g1,g2]at e1<;>simp only[Bool.false_eq_true,if_false,if_true,Int.add_zero,Int.zero_add]at e1
 all_goals
  refine acO qyR ?_;simp (disch:=omega) only[qwQ,tkC,hf,e1,go_sem]
  repeat' first|exact wa|fail
structure qq2 (t:Tk):Prop where
 tx:t.text.length<=1000000000
 nm:t.norm.length<=1000000000
 pg:t.page.length<=1000000000
 na:t.name.length<=1000000000
theorem tkP(t:Tk)(h:wh)(hz:qq2 t)(hp:cb SG h):ACalls Tryz.prog 185 [.agg (tkC t)] h (.int .i64 (tkE t)) h:=by
 obtain⟨R,hR⟩:=wg (tkE t)
 rw[<-hR];unfold tkE at hR
 by_cases g1:t.flags<0
 ·have k1:(t.flags<0)=True:=eqt g1;rw[ipo (.inl g1)]at hR;rw[hR];refine acO jz ?_;simp (disch:=omega) only[kR,tkC,go_sem]
  repeat' first|(apply qb;exact rvk;simp only[go_sem];first|exact qi|apply qg)|(with_reducible first|intro _|apply aiA)|exact clz|fail
 have k1:(t.flags<0)=False:=eqf g1
 by_cases g2:31<t.flags
 ·have k2:((31:Int)<t.flags)=True:=eqt g2;rw[ipo (.inr g2)]at hR;rw[hR];refine acO jz ?_;simp (disch:=omega) only[kR,tkC,go_sem]
  repeat' first|(apply qb;exact rvk;simp only[go_sem];first|exact qi|apply qg)|(with_reducible first|intro _|apply aiA)|exact clz|fail
 have k2:((31:Int)<t.flags)=False:=eqf g2;rw[ine om]at hR;obtain⟨f,hf⟩: ∃f:Nat,t.flags=(f:Int):=⟨t.flags.toNat,om⟩
 have hf2:f<32:=by omega
 have e2:=qCo f hf2;have e8:=qCp f hf2;have eg:qhY t.flags=f.testBit 1:=by unfold qhY;rw[hf,itn]
 have ek:mkB t.flags=f.testBit 3:=by unfold mkB;rw[hf,itn]
 have cI:=λh=>qE2 t f h hf hf2
 have cP:=λl=>qDL t.page (h++l) hz.pg
 have cM:=λl=>qDL t.name (h++l) hz.na
 have hG:=λl=>qFJ t.text (h++l) hz.tx (hp.app l)
 have cK:=λl=>qF2 t.text (h++l) hz.tx
 have cW:=λl=>t88 t.text (h++l) hz.tx
 have cN:=λl=>qDN t.norm (h++l) hz.nm
 unfold txB at hR;rw[eg,ek]at hR cI;obtain⟨bp,hbp⟩: ∃b,b=qiZ t.page:=⟨_,rfl⟩
 obtain⟨bm,hbm⟩: ∃b,b=qiZ t.name:=⟨_,rfl⟩
 obtain⟨bg,hbg⟩: ∃b,b=qeE t.text:=⟨_,rfl⟩
 obtain⟨bk,hbk⟩: ∃b,b=qvF t.text:=⟨_,rfl⟩
 obtain⟨bw,hbw⟩: ∃b,b=ke t.text:=⟨_,rfl⟩
 obtain⟨bn,hbn⟩: ∃b,b=qvG t.norm:=⟨_,rfl⟩
 rw[<-hbp,<-hbm,<-hbg,<-hbk,<-hbw,<-hbn]at hR;simp only[<-hbp]at cP;simp only[<-hbm]at cM;simp only[<-hbg]at hG;simp only[<-hbk]at cK;simp only[<-hbw]at cW;simp only[<-hbn]at cN;unfold tkC at cI;rw[hf]at cI k1 k2;cases ga:f.testBit 1<;>cases gb:f.testBit 3<;>rw[ga]at e2 hR cI<;>rw[gb]at e8 hR cI<;>simp only[Bool.false_eq_true,if_true,if_false,and_true,and_false,Bool.not_false,Bool.not_true,Bool.and_false,Bool.and_true]at e2 e8 hR cI
 ·cases bw with
  |false=>
   rw[Bool.false_and,ipo rfl]at hR;rw[hR];refine acO jz ?_;simp (disch:=omega) only[kR,tkC,hf,k1,k2,e2,e8,go_sem]
   repeat' first|(refine qI (cW _) ?_;simp (disch:=omega) only[go_sem])|exact wa|fail
  |true=>
  rw[Bool.true_and]at hR;cases bn with
  |false=>
   rw[ipo rfl]at hR;rw[hR];refine acO jz ?_;simp (disch:=omega) only[kR,tkC,hf,k1,k2,e2,e8,go_sem]
   repeat' first|(refine qI (cW _) ?_;simp (disch:=omega) only[go_sem])|((first|refine cA (cI _) ?_ ?_|refine cG (λe=>cN _) ?_ ?_);exact flk;simp (disch:=omega) only[go_sem])|exact wa|fail
  |true=>
   rw[ine (by simp)]at hR
   by_cases g4:t.line<0
   ·have k4:(t.line<0)=True:=eqt g4;rw[ipo g4]at hR;rw[hR];refine acO jz ?_;simp (disch:=omega) only[kR,tkC,hf,k1,k2,e2,e8,go_sem]
    repeat' first|(refine qI (cW _) ?_;simp (disch:=omega) only[k4,go_sem])|((first|refine cA (cI _) ?_ ?_|refine cG (λe=>cN _) ?_ ?_);exact flk;simp (disch:=omega) only[k4,go_sem])|(apply qb;exact rvk;simp only[go_sem];first|exact qi|apply qg)|(with_reducible first|intro _|apply aiA)|exact clz|fail
   have k4:(t.line<0)=False:=eqf g4;rw[ine g4]at hR;cases bp with
   |false=>
    rw[ipo (.inl rfl)]at hR;rw[hR];refine acO jz ?_;simp (disch:=omega) only[kR,tkC,hf,k1,k2,e2,e8,go_sem]
    repeat' first|(refine qI (cW _) ?_;simp (disch:=omega) only[k4,go_sem])|(refine qj ( .bool false) ?_;simp (disch:=omega) only[go_sem])|((first|refine cA (cI _) ?_ ?_|refine cG (λe=>cN _) ?_ ?_|refine cA (cP _) ?_ ?_);exact flk;simp (disch:=omega) only[k4,go_sem])|(apply qb;exact rvk;simp only[go_sem];first|exact qi|apply qg)|(with_reducible first|intro _|apply aiA)|exact clz|fail
   |true=>
   cases bm with
   |false=>
    rw[ipo (.inr rfl)]at hR;rw[hR];refine acO jz ?_;simp (disch:=omega) only[kR,tkC,hf,k1,k2,e2,e8,go_sem]
    repeat' first|(refine qI (cW _) ?_;simp (disch:=omega) only[k4,go_sem])|((first|refine cA (cI _) ?_ ?_|refine cG (λe=>cN _) ?_ ?_|refine cA (cP _) ?_ ?_|refine cG (λe=>cM _) ?_ ?_);exact flk;simp (disch:=omega) only[k4,go_sem])|(apply qb;exact rvk;simp only[go_sem];first|exact qi|apply qg)|(with_reducible first|intro _|apply aiA)|exact clz|fail
   |true=>
    rw[ine (by simp)]at hR;rw[hR];refine acO jz ?_;simp (disch:=omega) only[kR,tkC,hf,k1,k2,e2,e8,go_sem]
    repeat' first|(refine qI (cW _) ?_;simp (disch:=omega) only[k4,go_sem])|((first|refine cA (cI _) ?_ ?_|refine cG (λe=>cN _) ?_ ?_|refine cA (cP _) ?_ ?_|refine cG (λe=>cM _) ?_ ?_);exact flk;simp (disch:=omega) only[k4,go_sem])|(apply qb;exact rvk;simp only[go_sem];first|exact qi|apply qg)|(with_reducible first|intro _|apply aiA)|exact clz|fail
 ·cases bk with
  |false=>
   rw[Bool.false_and,ipo rfl]at hR;rw[hR];refine acO jz ?_;simp (disch:=omega) only[kR,tkC,hf,k1,k2,e2,e8,go_sem]
   repeat' first|(refine qI (cK _) ?_;simp (disch:=omega) only[go_sem])|(apply qb;exact rvk;simp only[go_sem];first|exact qi|apply qg)|(with_reducible first|intro _|apply aiA)|exact clz|fail
  |true=>
  rw[Bool.true_and]at hR
  by_cases g3:t.norm=t.text
  ·have k3:(t.norm=t.text)=True:=eqt g3;rw[dqt g3,ine (by simp)]at hR
   by_cases g4:t.line<0
   ·have k4:(t.line<0)=True:=eqt g4;rw[ipo g4]at hR;rw[hR];refine acO jz ?_;simp (disch:=omega) only[kR,tkC,hf,k1,k2,e2,e8,go_sem]
    repeat' first|(refine qI (cK _) ?_;simp (disch:=omega) only[k4,go_sem])|(refine qj ( .bool false) ?_;simp (disch:=omega) only[k4,go_sem])|(refine cA (cI _) flk ?_;simp (disch:=omega) only[k3,k4,go_sem])|(apply qb;exact rvk;simp only[go_sem];first|exact qi|apply qg)|(with_reducible first|intro _|apply aiA)|exact clz|fail
   have k4:(t.line<0)=False:=eqf g4;rw[ine g4]at hR;cases bp with
   |false=>
    rw[ipo (.inl rfl)]at hR;rw[hR];refine acO jz ?_;simp (disch:=omega) only[kR,tkC,hf,k1,k2,e2,e8,go_sem]
    repeat' first|(refine qI (cK _) ?_;simp (disch:=omega) only[k4,go_sem])|(refine qj ( .bool false) ?_;simp (disch:=omega) only[k4,go_sem])|((first|refine cA (cI _) ?_ ?_|refine cA (cP _) ?_ ?_);exact flk;simp (disch:=omega) only[k3,k4,go_sem])|(apply qb;exact rvk;simp only[go_sem];first|exact qi|apply qg)|(with_reducible first|intro _|apply aiA)|exact clz|fail
   |true=>
   cases bm with
   |false=>
    rw[ipo (.inr rfl)]at hR;rw[hR];refine acO jz ?_;simp (disch:=omega) only[kR,tkC,hf,k1,k2,e2,e8,go_sem]
    repeat' first|(refine qI (cK _) ?_;simp (disch:=omega) only[k4,go_sem])|(refine qj ( .bool false) ?_;simp (disch:=omega) only[k4,go_sem])|((first|refine cA (cI _) ?_ ?_|refine cA (cP _) ?_ ?_|refine cG (λe=>cM _) ?_ ?_);exact flk;simp (disch:=omega) only[k3,k4,go_sem])|(apply qb;exact rvk;simp only[go_sem];first|exact qi|apply qg)|(with_reducible first|intro _|apply aiA)|exact clz|fail
   |true=>
    rw[ine (by simp)]at hR;rw[hR];refine acO jz ?_;simp (disch:=omega) only[kR,tkC,hf,k1,k2,e2,e8,go_sem]
    repeat' first|(refine qI (cK _) ?_;simp (disch:=omega) only[k4,go_sem])|(refine qj ( .bool false) ?_;simp (disch:=omega) only[k4,go_sem])|((first|refine cA (cI _) ?_ ?_|refine cA (cP _) ?_ ?_|refine cG (λe=>cM _) ?_ ?_);exact flk;simp (disch:=omega) only[k3,k4,go_sem])|(apply qb;exact rvk;simp only[go_sem];first|exact qi|apply qg)|(with_reducible first|intro _|apply aiA)|exact clz|fail
  ·have k3:(t.norm=t.text)=False:=eqf g3;rw[dqf g3,ipo rfl]at hR;rw[hR];refine acO jz ?_;simp (disch:=omega) only[kR,tkC,hf,k1,k2,e2,e8,go_sem]
   repeat' first|(refine qI (cK _) ?_;simp (disch:=omega) only[go_sem])|(refine qj ( .bool false) ?_;simp (disch:=omega) only[go_sem])|(refine cA (cI _) flk ?_;simp (disch:=omega) only[k3,go_sem])|(apply qb;exact rvk;simp only[go_sem];first|exact qi|apply qg)|(with_reducible first|intro _|apply aiA)|exact clz|fail
 ·cases bg with
  |false=>
   rw[Bool.false_and,ipo rfl]at hR;rw[hR];refine acO jz ?_;simp (disch:=omega) only[kR,tkC,hf,k1,k2,e2,e8,go_sem]
   repeat' first|(refine qI (hG _) ?_;simp (disch:=omega) only[go_sem])|exact wa|(with_reducible first|intro _|apply aiA)|exact clz|fail
  |true=>
  rw[Bool.true_and]at hR
  by_cases g3:t.norm=t.text
  ·have k3:(t.norm=t.text)=True:=eqt g3;rw[dqt g3,ine (by simp)]at hR
   by_cases g4:t.line<0
   ·have k4:(t.line<0)=True:=eqt g4;rw[ipo g4]at hR;rw[hR];refine acO jz ?_;simp (disch:=omega) only[kR,tkC,hf,k1,k2,e2,e8,go_sem]
    repeat' first|(refine qI (hG _) ?_;simp (disch:=omega) only[k4,go_sem])|(refine qj ( .bool false) ?_;simp (disch:=omega) only[k4,go_sem])|(refine cA (cI _) flk ?_;simp (disch:=omega) only[k3,k4,go_sem])|exact wa|(with_reducible first|intro _|apply aiA)|exact clz|fail
   have k4:(t.line<0)=False:=eqf g4;rw[ine g4]at hR;cases bp with
   |false=>
    rw[ipo (.inl rfl)]at hR;rw[hR];refine acO jz ?_;simp (disch:=omega) only[kR,tkC,hf,k1,k2,e2,e8,go_sem]
    repeat' first|(refine qI (hG _) ?_;simp (disch:=omega) only[k4,go_sem])|(refine qj ( .bool false) ?_;simp (disch:=omega) only[k4,go_sem])|((first|refine cA (cI _) ?_ ?_|refine cA (cP _) ?_ ?_);exact flk;simp (disch:=omega) only[k3,k4,go_sem])|exact wa|(with_reducible first|intro _|apply aiA)|exact clz|fail
   |true=>
   cases bm with
   |false=>
    rw[ipo (.inr rfl)]at hR;rw[hR];refine acO jz ?_;simp (disch:=omega) only[kR,tkC,hf,k1,k2,e2,e8,go_sem]
    repeat' first|(refine qI (hG _) ?_;simp (disch:=omega) only[k4,go_sem])|(refine qj ( .bool false) ?_;simp (disch:=omega) only[k4,go_sem])|((first|refine cA (cI _) ?_ ?_|refine cA (cP _) ?_ ?_|refine cG (λe=>cM _) ?_ ?_);exact flk;simp (disch:=omega) only[k3,k4,go_sem])|exact wa|(with_reducible first|intro _|apply aiA)|exact clz|fail
   |true=>
    rw[ine (by simp)]at hR;rw[hR];refine acO jz ?_;simp (disch:=omega) only[kR,tkC,hf,k1,k2,e2,e8,go_sem]
    repeat' first|(refine qI (hG _) ?_;simp (disch:=omega) only[k4,go_sem])|(refine qj ( .bool false) ?_;simp (disch:=omega) only[k4,go_sem])|((first|refine cA (cI _) ?_ ?_|refine cA (cP _) ?_ ?_|refine cG (λe=>cM _) ?_ ?_);exact flk;simp (disch:=omega) only[k3,k4,go_sem])|exact wa|(with_reducible first|intro _|apply aiA)|exact clz|fail
  ·have k3:(t.norm=t.text)=False:=eqf g3;rw[dqf g3,ipo rfl]at hR;rw[hR];refine acO jz ?_;simp (disch:=omega) only[kR,tkC,hf,k1,k2,e2,e8,go_sem]
   repeat' first|(refine qI (hG _) ?_;simp (disch:=omega) only[go_sem])|(refine qj ( .bool false) ?_;simp (disch:=omega) only[go_sem])|(refine cA (cI _) flk ?_;simp (disch:=omega) only[k3,go_sem])|exact wa|(with_reducible first|intro _|apply aiA)|exact clz|fail
 ·rw[hR];refine acO jz ?_;simp (disch:=omega) only[kR,tkC,hf,k1,k2,e2,e8,go_sem]
  repeat' first|exact wa|(with_reducible first|intro _|apply aiA)|exact clz|fail
end RC
end
section
open Go Go.Proofs AF
def US:List Nat:= []
theorem qC9:qG Tryz.prog 14 9 0 [RV.tmp 4] (cCT 65):=fi Tryz.f14 [] US []
theorem qzN:qG Tryz.prog 91 19 0 [RV.tmp 4] (cIF 2 (some 2)):=fi Tryz.f91 [] US []
theorem qzH:qG Tryz.prog 65 19 0 [RV.tmp 4] (cIF 3 (some 3)):=fi Tryz.f65 [] US []
theorem qrm:qG Tryz.prog 183 9 0 [RV.tmp 4] (cCT 255):=fi Tryz.f183 [] US []
theorem qrt:qG Tryz.prog 255 19 0 [RV.tmp 4] (cIF 6 (some 6)):=fi Tryz.f255 [] US []
theorem qyT:qG Tryz.prog 261 9 0 [RV.tmp 4] (cCT 310):=fi Tryz.f261 [] US []
def qsA:C:=
 (vU [MC 6 (.bool false)] ((vU [MV 10 0,O1 11 .len 10,MV 12 1,O1 13 .len 12,BI 14 .neq 11 13] (vV 14 (vX [MC 6 (.bool false)]))).seq ((vU [MV 15 0,O1 16 .len 15,vO 17 0] (C.block
 0 (vU [BI 18 .lss 17 16] ((vW 18 0).seq ((C.block 1 (vU [MV 19 17,O2 20 (.idxA 2) 15 17,O1 21 (.load (some 2)) 20,⟨some 8,none,.alloc 0 152 [.nl,.nl],[]⟩,MV 7 19,ST 2 8 21] (vU
 [MV 22 1,MV 23 7,O2 24 (.idxA 2) 22 23,O1 25 (.load (some 2)) 24,⟨some 9,none,.alloc 1 152 [.nl,.nl],[]⟩,ST 2 9 25] (vU [MV 26 2,O1 27 (.load (some 2)) 8,O1 28 (.load (some 2))
 9,ON 29 .callv [.t 26,.t 27,.t 28],O1 30 (.un UnOp.not) 29] (vV 30 (vX [MC 6 (.bool false)])))))).seq (vY [vP 31 .add 17 1,MV 17 31])))).loop)).seq (vX [MC 6 (.bool true)]))))
theorem qrx:qG Tryz.prog 291 32 2 [RV.tmp 6] qsA:=fi Tryz.f291 [8,9] US []
theorem qzd:qG Tryz.prog 310 19 0 [RV.tmp 4] (cIF 1 none):=fi Tryz.f310 [] US []
end
