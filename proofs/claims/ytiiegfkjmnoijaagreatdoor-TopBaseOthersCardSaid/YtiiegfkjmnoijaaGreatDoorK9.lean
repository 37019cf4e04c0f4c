import Derived.Test.YtiiegfkjmnoijaaGreatDoorK8
import Derived.Test.YtiiegfkjmnoijaaGreatDoorK3
import Derived.Test.YtiiegfkjmnoijaaGreatDoorK5
import Derived.Test.YtiiegfkjmnoijaaGreatDoorProg
import Derived.Test.YtiiegfkjmnoijaaGreatDoorK4
import Derived.Below
import Derived.Test.YtiiegfkjmnoijaaGreatDoorK1
import Derived.Lib.AppendIntMem
import Derived.Stop.LaidErr
import Derived.Lib.ItoaLen
set_option linter.all false
set_option maxHeartbeats 64000000
set_option maxRecDepth 100000
section
open Go Go.Proofs AF HY
namespace HY
theorem qgc(c:UInt8)(h:w6):ACalls Tryz.prog 187 [.int .u8 (c.toNat:Int)] h (.bool (spc c)) h:=by
 refine qJ M6 (by simp) ?_;simp only[lco,lnl,Nat.reduceAdd,Nat.reduceSub,List.replicate,lca,lna,lan];simp (disch:=omega) only[Iq,go_sem]
 repeat' first|(refine qO (bz c _) ?_ ?_;exact flk;simp (disch:=omega) only[go_sem])|exact wm|fail
def xn(s:List UInt8):AV:= .sl s.length λi=> [.int .u8 ((s.getD i 0).toNat:Int)]
def bv(p:UInt8->Bool):List UInt8->Nat->Int
 | [],_=> -1
 |c::r,i=>if p c=true then i else bv p r (i+1)
theorem QV(p:UInt8->Bool): ∀(s:List UInt8) (i:Nat),(0<=bv p s i↔s.any p=true)∧ -1<=bv p s i:=by
 intro s
 induction s with
 |nil=>intro i;simp[bv]
 |cons c r ih=>
  intro i
  by_cases hc:p c=true
  ·have e:bv p (c::r) i=i:=ipo hc;rw[e,List.any_cons,hc];simp
   try omega
  ·have e:bv p (c::r) i=bv p r (i+1):=ine hc;rw[e,List.any_cons];have hc':p c=false:=by simpa using hc
   rw[hc',Bool.false_or];exact ih (i+1)
theorem QU(p:UInt8->Bool)(s:List UInt8)(i:Nat):decide (0<=bv p s i)=s.any p:=by
 rw[Bool.eq_iff_iff,decide_eq_true_eq];exact (QV p s i).1
theorem qgf(s:List UInt8)(p:UInt8->Bool)(F:Nat)(h:w6)(hs:s.length<=1000000000)(hp: ∀(c:UInt8) (h:w6),ACalls Tryz.prog F [.int .u8 (c.toNat:Int)] h (.bool (p c)) h):ACalls Tryz.prog 249 [xn s,.fn (.func F) [] []] h (.int .i64 (bv p s 0)) h:=by
 refine qJ NA (by simp) ?_;simp only[lco,lnl,Nat.reduceAdd,Nat.reduceSub,List.replicate,lca,lna,lan];simp (disch:=omega) only[IM,xn,go_sem];refine qp (T:=λi:Nat=>zw 19 [(0,xn s),(1,.fn (.func F) [] []),(6,xn s),(7,.int .i64 s.length),(8,.int .i64 i)]) (H:=λ_=>h) (inv:=λi=>i<=s.length∧bv p s 0=bv p (s.drop i) i) (m:=λi=>s.length-i) 0 ⟨om,by simp⟩ (Wk.temps ?_) ?_
 ·(simp only[xn,zw,List.foldl,go_sem,qg,qc,qa,qf];try exact wr)
 ·rintro i ⟨i1,i2⟩ K hK;rw[i2]
  by_cases hi:i<s.length
  ·have e:s.drop i=s.getD i 0::s.drop (i+1):=by rw[List.drop_eq_getElem_cons hi];simp[gdqA,hi]
   rw[e]at i2 ⊢;simp only[bv]at i2 ⊢;have hpc:=λh=>hp (s.getD i 0) h
   cases hb:p (s.getD i 0)with
   |true=>
    rw[hb]at hpc;simp (disch:=omega) only[zw,List.foldl,xn,go_sem]
    repeat' first|(refine qy (hpc _) ?_;simp (disch:=omega) only[go_sem,qt])|(apply qh;exact rvk;simp only[go_sem];first|exact qi|apply qe)|(with_reducible first|intro _|apply aiA)|exact clz|fail
   |false=>
    rw[hb]at hpc i2;simp (disch:=omega) only[zw,List.foldl,xn,go_sem]
    repeat' first|(refine qy (hpc _) ?_;simp (disch:=omega) only[go_sem,qt])|(apply qh;exact rvk;simp only[go_sem];apply qe)|(with_reducible first|intro _|apply aiA)|exact clz|fail
    refine hK _ _ (i+1) ⟨om,by rw[i2];simp⟩ om (Wk.temps ?_)
    (simp only[xn,zw,List.foldl,go_sem,qg,qc,qa,qf];try exact wr)
  ·have e:i=s.length:=by omega
   subst e;rw[List.drop_length];simp (disch:=omega) only[zw,List.foldl,xn,go_sem]
   repeat' first|exact wm|(with_reducible first|intro _|apply aiA)|exact clz|fail
theorem qgb(s:List UInt8)(p:UInt8->Bool)(F:Nat)(h:w6)(hs:s.length<=1000000000)(hp: ∀(c:UInt8) (h:w6),ACalls Tryz.prog F [.int .u8 (c.toNat:Int)] h (.bool (p c)) h):ACalls Tryz.prog 186 [xn s,.fn (.func F) [] []] h (.bool (s.any p)) h:=by
 rw[<-QU p s 0];refine qJ M5 (by simp) ?_;simp only[lco,lnl,Nat.reduceAdd,Nat.reduceSub,List.replicate,lca,lna,lan];simp (disch:=omega) only[Ip,xn,go_sem]
 repeat' first|(refine qO (qgf s p F _ hs hp) ?_ ?_;exact flk;simp (disch:=omega) only[go_sem])|exact wm|fail
theorem t88(s:List UInt8)(h:w6)(hs:s.length<=1000000000):ACalls Tryz.prog 134 [.str s] h (.bool (kU s)) h:=by
 obtain⟨c,hc⟩:=wD (jc s)
 have h104: ∀h:w6,ACalls Tryz.prog 181 [.str s] h (.int .i64 c) h:=λh=>by rw[hc];exact qdx s h hs
 have hw:kU s=(decide (0<s.length)&&decide (s.length<=64)&&decide (c=0)&&(decide (kind (ch s 0)=1)||decide (kind (ch s 0)=3))&& !(s.any spc)):=by rw[hc];rfl
 rw[hw]
 by_cases g1:0<s.length
 ·have k1:(s= [])=False:=eqf (by intro e;rw[e]at g1;simp at g1)
  by_cases g2:s.length<=64
  ·have k2:(64<(s.length:Int))=False:=xD
   by_cases g3:c=0
   ·refine qJ oM (by simp) ?_;simp only[lco,lnl,Nat.reduceAdd,Nat.reduceSub,List.replicate,lca,lna,lan];simp (disch:=omega) only[u5,k1,k2,g3,go_sem]
    repeat' first|((first|refine qO (bz _ _) ?_ ?_|refine qO (qgb s spc 187 _ hs qgc) ?_ ?_);exact flk;simp (disch:=omega) only[go_sem])|(refine qU (λe=>⟨?_,h104 _⟩) ?_;exact flk;simp (disch:=omega) only[g3,kn,go_sem])|(apply qh;exact rvk;simp only[go_sem];apply qd)|(with_reducible first|intro _|apply aiA)|exact clz|fail
    all_goals (generalize s.any spc=b;grind)
   ·refine qJ oM (by simp) ?_;simp only[lco,lnl,Nat.reduceAdd,Nat.reduceSub,List.replicate,lca,lna,lan];simp (disch:=omega) only[u5,k1,k2,go_sem]
    repeat' first|(refine qU (λe=>⟨?_,h104 _⟩) ?_;exact flk;simp (disch:=omega) only[g3,kn,go_sem])|exact wm|fail
    all_goals (generalize s.any spc=b;grind)
  ·have k2:(64<(s.length:Int))=True:=xv;refine qJ oM (by simp) ?_;simp only[lco,lnl,Nat.reduceAdd,Nat.reduceSub,List.replicate,lca,lna,lan];simp (disch:=omega) only[u5,k1,k2,go_sem]
   repeat' first|(refine qj ((.int .i64 0)) ?_;simp (disch:=omega) only[go_sem])|(apply qh;exact rvk;simp only[go_sem];apply qd)
   all_goals (generalize s.any spc=b;grind)
 ·have e:s= []:=List.eq_nil_of_length_eq_zero om;subst e;refine qJ oM (by simp) ?_;simp only[lco,lnl,Nat.reduceAdd,Nat.reduceSub,List.replicate,lca,lna,lan];simp (disch:=omega) only[u5,go_sem]
  repeat' first|(refine qj ((.int .i64 0)) ?_;simp (disch:=omega) only[go_sem])|exact wm|fail
  all_goals (generalize List.any _ spc=b;grind)
end HY
end
section
open Go Go.Proofs AF
def ww:List Nat:= [124,167,217]
theorem N4:qN Tryz.prog 36 26 0 [RV.tmp 4] cEQ:=fi Tryz.f36 [] ww []
theorem N5:qN Tryz.prog 45 26 0 [RV.tmp 4] cEQ:=fi Tryz.f45 [] ww []
theorem qct:qN Tryz.prog 21 9 0 [RV.tmp 4] (cCT 77):=fi Tryz.f21 [] ww []
theorem qcI:qN Tryz.prog 77 19 0 [RV.tmp 4] cIX:=fi Tryz.f77 [] ww []
theorem MP:qN Tryz.prog 171 9 0 [RV.tmp 4] (cCT 22):=fi Tryz.f171 [] ww []
theorem qcu:qN Tryz.prog 22 19 0 [RV.tmp 4] cIX:=fi Tryz.f22 [] ww []
theorem MX:qN Tryz.prog 179 19 0 [RV.tmp 4] (cIF 1 none):=fi Tryz.f179 [] ww []
def IA:C:=
 (v6 [MC 4 (.str []),MC 5 (.bool false)] (wa [MV 6 0,MV 7 1,O2 8 (.call 269 true) 6 7,O1 9 (.ext 0) 8,O1 10 (.ext 1) 8,MV 4 9,MV 5 10]))
theorem Nj:qN Tryz.prog 228 11 0 [RV.tmp 4,RV.tmp 5] IA:=fi Tryz.f228 [] ww []
def Df:C:=
 (v6 [MC 4 (.str []),MC 5 (.bool false)] ((v6 [MV 6 0,MV 7 1,O2 8 (.call 298 true) 6 7,O1 9 (.un UnOp.not) 8] (v7 9 (wa [MV 10 0,MV 4 10,MC 5 (.bool false)]))).seq (wa [MV 11
 0,MV 12 0,O1 13 .slen 12,MV 14 1,O1 15 .slen 14,BI 16 .sub 13 15,O2 17 (.sslc false true) 11 16,MV 4 17,MC 5 (.bool true)])))
theorem Bv:qN Tryz.prog 269 18 0 [RV.tmp 4,RV.tmp 5] Df:=fi Tryz.f269 [] ww []
def kg:C:=
 (v6 [O1 1 (.box 0 92) 0,vU 2 0] ((v6 [vT 6 4 1,LD 7 6,vV 8 .lss 7 0,MV 9 8,wh 10 9 4 1,wi 11 9 10,vZ 12 9 (.bin .gtr) 11 (i6 31),PT 13 9 12] (v7 13 (wa [vU 2 2]))).seq (v6 [O1
 14 (.load (some 6)) 1,OC 15 (.call 190 true) 14 (i6 2),O1 16 (.load (some 6)) 1,OC 17 (.call 190 true) 16 (i6 8),MV 3 15,MV 4 17] ((v6 [MV 18 3,MV 19 18,MG 20 19 true 4,PF 21
 19 20] (v7 21 (wa [vU 2 8]))).seq ((C.block 0 (v6 [MV 51 3,MV 50 51] (C.cond (.t 50) (v6 [vT 52 0 1,LD 53 52,O1 54 (.call 191 true) 53,O1 55 (.un UnOp.not) 54,MV 56 55,wh 57 56
 1 1,wi 58 56 57,wh 59 56 0 1,wi 60 56 59,vX 61 56 (.bin .neq) 58 60,PT 62 56 61] (v7 62 (wa [vU 2 11]))) (v6 [MV 64 4,MV 63 64] (C.cond (.t 63) (v6 [vT 65 0 1,LD 66 65,O1 67
 .slen 66,vV 68 .neq 67 1,MV 69 68,wh 70 69 0 1,wi 71 69 70,vZ 72 69 .sidx 71 (i6 0),vW 73 69 (.call 154 true) 72,vZ 74 69 (.bin .neq) 73 (i6 5),vY 75 69 74,P1 76 75 true (.fldA
 0) 1,P1 77 75 true (.load none) 76,PC 78 75 true .sidx 77 (i6 0),P1 79 75 true (.call 154 true) 78,PC 80 75 true (.bin .neq) 79 (i6 4),QF 81 69 false 75 80,PT 82 69 81,MV 83
 82,wh 84 83 1 1,wi 85 83 84,wh 86 83 0 1,wi 87 83 86,vX 88 83 (.bin .neq) 85 87,PT 89 83 88] (v7 89 (wa [vU 2 11]))) ((v6 [vT 22 0 1,LD 23 22,O1 24 (.call 100 true) 23,O1 25
 (.un UnOp.not) 24,MV 26 25,wh 27 26 1 1,wi 28 26 27,vZ 29 26 (.bin .eql) 28 (.str []),PT 30 26 29,MV 31 30,wh 32 31 1 1,wi 33 31 32,vW 34 31 .slen 33,vZ 35 31 (.bin .gtr) 34
 (i6 64),PT 36 31 35] (v7 36 (wa [vU 2 11]))).seq (v6 [vU 5 0] (C.block 1 ((v6 [MV 37 5,vT 38 1 1,LD 39 38,O1 40 .slen 39,BI 41 .lss 37 40] (v8 41 1)).seq ((C.block 2 (v6 [vT 44
 1 1,LD 45 44,MV 46 5,O2 47 .sidx 45 46,O1 48 (.call 192 true) 47,O1 49 (.un UnOp.not) 48] (v7 49 (wa [vU 2 11])))).seq (we 42 5))).loop)))))))).seq ((v6 [vT 90 2 1,vT 91 1
 90,LD 92 91,vV 93 .lss 92 0] (v7 93 (wa [vU 2 2]))).seq ((v6 [vT 94 2 1,vT 95 0 94,LD 96 95,O1 97 (.call 193 true) 96,O1 98 (.un UnOp.not) 97,MV 99 98,wh 100 99 5 1,wi 101 99
 100,vW 102 99 (.call 193 true) 101,vW 103 99 (.un UnOp.not) 102,PT 104 99 103] (v7 104 (wa [vU 2 14]))).seq (wa [vU 2 0]))))))))
theorem jj:qN Tryz.prog 143 105 1 [RV.tmp 2] kg:=fi Tryz.f143 [1] ww []
def It:C:=
 (v6 [O1 2 (.box 0 92) 0,MC 4 (.bool false)] (wa [vT 5 4 2,LD 6 5,MV 7 1,BI 8 .quo 6 7,vV 9 .rem 8 2,vV 10 .eql 9 1,MV 4 10]))
theorem M9:qN Tryz.prog 190 11 1 [RV.tmp 4] It:=fi Tryz.f190 [2] ww []
def Iu:C:=
 (v6 [MC 2 (.bool false)] ((v6 [vU 3 1] (C.block 0 ((v6 [MV 4 3,vV 5 .leq 4 64] (v8 5 0)).seq ((C.block 1 (v6 [MV 8 0,MV 9 3,O1 10 (.call 115 true) 9,ON 11 (.bin .add) [.c (.str
 [91]),.t 10],BC 12 .add 11 (.str [93]),BI 13 .eql 8 12] (v7 13 (wa [MC 2 (.bool true)])))).seq (we 6 3))).loop)).seq (wa [MC 2 (.bool false)])))
theorem Na:qN Tryz.prog 191 14 0 [RV.tmp 2] Iu:=fi Tryz.f191 [] ww []
def Qa:C:=
 (v6 [MC 2 (.bool false)] (v6 [MV 4 0,O1 5 (.call 154 true) 4,MV 3 5] (wa [MV 6 3,vV 7 .eql 6 1,MV 8 7,vY 9 8 3,vZ 10 8 (.bin .eql) 9 (i6 2),PT 11 8 10,MV 12 11,vY 13 12 3,vZ 14
 12 (.bin .eql) 13 (i6 3),PT 15 12 14,MV 16 15,vY 17 16 3,vZ 18 16 (.bin .eql) 17 (i6 4),PT 19 16 18,MV 2 19])))
theorem oQ:qN Tryz.prog 192 20 0 [RV.tmp 2] Qa:=fi Tryz.f192 [] ww []
def C4:C:=
 (v6 [MC 2 (.bool false)] (wa [MV 3 0,BC 4 .eql 3 (.str []),MV 5 4,vY 6 5 0,vW 7 5 (.call 141 true) 6,PT 8 5 7,MV 2 8]))
theorem Bi:qN Tryz.prog 193 9 0 [RV.tmp 2] C4:=fi Tryz.f193 [] ww []
end
section
open Go Go.Proofs AF HY LN
namespace RC
abbrev Str:=List UInt8
def qz(L:List Int):AV:= .sl L.length λi=> [.int .i64 (L.getD i 0)]
def nN(s:Str):Bool:=decide (1<=s.length)&&decide (s.drop (s.length-1)= [42])
def YW(s:Str):Bool:=if nN s=true then wL (s.take (s.length-1))&&decide (s.length<=16) else wL s
theorem E8:((1:Nat):Int)=1:=rfl
theorem BK(s:Str)(h:w6)(hs:s.length<=1000000000):ACalls Tryz.prog 298 [.str s,.str [42]] h (.bool (nN s)) h:=by
 unfold nN
 by_cases g:1<=s.length
 ·have k1:((1:Int)<=s.length)=True:=xv;have k2:((s.length:Int)-1).toNat=s.length-1:=by omega
  have k3:(0<=(s.length:Int)-1)=True:=xv;have k4:((s.length:Int)-1<=s.length)=True:=xv;have k5:List.take (s.length-(s.length-1)) (List.drop (s.length-1) s)=s.drop (s.length-1):=ltl (by simp);rw[dqt g];refine acO Bw ?_;simp (disch:=omega) only[Dh,E8,k1,k2,k3,k4,k5,go_sem]
  repeat' first|exact wm|with_reducible apply aiA|exact clz|fail
 ·have k1:((1:Int)<=s.length)=False:=xD;rw[dqf g];refine acO Bw ?_;simp (disch:=omega) only[Dh,E8,k1,go_sem]
  repeat' first|exact wm|fail
theorem DC(s:Str)(h:w6)(hs:s.length<=1000000000):ACalls Tryz.prog 269 [.str s,.str [42]] h (.tup [.str (if nN s=true then s.take (s.length-1) else s),.bool (nN s)]) h:=by
 have c1:=λh=>BK s h hs
 cases g:nN s with
 |true=>
  rw[g]at c1;have g1:1<=s.length:=by unfold nN at g;simp at g;omega
  have k2:((s.length:Int)-1).toNat=s.length-1:=by omega
  have k3:(0<=(s.length:Int)-1)=True:=xv;have k4:((s.length:Int)-1<=s.length)=True:=xv;refine acO Bv ?_;simp (disch:=omega) only[Df,go_sem]
  repeat' first|(refine cA (c1 _) flk ?_;simp (disch:=omega) only[E8,k2,k3,k4,Nat.sub_zero,go_sem])|exact wm|with_reducible apply aiA|exact clz|fail
 |false=>
  rw[g]at c1;refine acO Bv ?_;simp (disch:=omega) only[Df,go_sem]
  repeat' first|(refine cA (c1 _) flk ?_;simp (disch:=omega) only[go_sem])|exact wm|fail
theorem Lr(s:Str)(h:w6)(hs:s.length<=1000000000):ACalls Tryz.prog 228 [.str s,.str [42]] h (.tup [.str (if nN s=true then s.take (s.length-1) else s),.bool (nN s)]) h:=by
 have c1:=λh=>DC s h hs
 refine acO Nj ?_;simp (disch:=omega) only[IA,go_sem]
 repeat' first|(refine cA (c1 _) flk ?_;simp (disch:=omega) only[go_sem])|exact wm|with_reducible apply aiA|exact clz|fail
theorem Y7(s:Str)(h:1<=s.length):nN s=decide (((s[s.length-1]?).getD 0).toNat=42):=by
 unfold nN;rw[dqt h,Bool.true_and];have e:s.drop (s.length-1)= [(s[s.length-1]?).getD 0]:=by
  rw[List.drop_eq_getElem_cons (show s.length-1<s.length by omega),zG (show s.length-1<s.length by omega),List.drop_eq_nil_of_le om];rfl
 rw[e];congr 1;simp only[List.cons.injEq,and_true,eq_iff_iff];exact⟨λh=>by rw[h];rfl,λh=>UInt8.toNat_inj.1 (by rw[h];rfl)⟩
def xM(f:Nat->Int):Nat->Nat->Int
 |_,0=>0
 |i,k+1=>if f i≠0 then f i else xM f (i+1) k
theorem iS{f:Nat->Int}{n i:Nat}(hi:i<=n)(h: ∀j,j<i->f j=0):xM f 0 n=xM f i (n-i):=by
 induction i with
 |zero=>rfl
 |succ i ih=>
  rw[ih om (λj hj=>h j om),show n-i=(n-(i+1))+1 by omega];simp only[xM,h i om,ne_eq,not_true_eq_false,if_false]
theorem wu{f:Nat->Int}{n i:Nat}(hi:i<n)(h: ∀j,j<i->f j=0)(hp:f i≠0):xM f 0 n=f i:=by
 rw[iS om h,show n-i=(n-i-1)+1 by omega];simp only[xM];rw[ipo hp]
theorem jk{f:Nat->Int}{n:Nat}(h: ∀j,j<n->f j=0):xM f 0 n=0:=by
 rw[iS (nlr n) h,Nat.sub_self];rfl
theorem jE{f:Nat->Int}{n:Nat}:xM f 0 n=0↔ ∀j,j<n->f j=0:=by
 refine⟨λh=> ?_,jk⟩;intro j
 induction j using Nat.strongRecOn with
 |_ j ih=>
  intro hj
  by_cases e:f j=0
  ·exact e
  ·rw[wu hj (λk hk=>ih k hk om) e]at h;exact absurd h e
def F6(b:Int)(l:List Int)(i:Nat):Int:=if l.getD i 0<0∨b<=l.getD i 0 then 2 else if 0<i∧l.getD i 0<=l.getD (i-1) 0 then 10 else 0
def qbA(b:Int)(l:List Int):Int:=xM (F6 b l) 0 l.length
structure Gr where
 name:Str
 mem:List Int
 deriving Inhabited
def grC(g:Gr):w7:= [.str g.name,qz g.mem]
def VM(gs:List Gr):AV:= .sl gs.length λi=>grC (gs.getD i default)
def jT(names:List Str)(i:Nat):Int:=if YW (names.getD i [])=false then 14 else if jx (λj=>decide (names.getD i []=names.getD j [])) i=true then 7 else 0
def Em(names:List Str)(gs:List Gr)(i:Nat):Int:=
 if wL (gs.getD i default).name=false then 14 else if jx (λj=>decide ((gs.getD i default).name=names.getD j [])) names.length=true then 7 else
  if jx (λj=>decide ((gs.getD i default).name=(gs.getD j default).name)) i=true then 7 else if (gs.getD i default).mem.length=0 then 5 else qbA names.length (gs.getD i default).mem
def sgE(names:List Str)(gs:List Gr):Int:=
 if 32<names.length then 4 else if xM (jT names) 0 names.length≠0 then xM (jT names) 0 names.length else if 16<gs.length then 4 else xM (Em names gs) 0 gs.length
theorem XJ(n:Nat)(g:Nat->Str)(x:Str)(h:w6)(hn:n<=1000000000):ACalls Tryz.prog 22 [.sl n (λj=> [.str (g j)]),.str x] h (.int .i64 (yM (λj=>decide (x=g j)) n 0)) h:=by
 have:=OH qcu n (λj=> .s (g j)) (.s x) h (λ_ _=>rfl) om
 simpa only[At.v,At.s.injEq] using this
theorem qce(n:Nat)(g:Nat->Str)(x:Str)(h:w6)(hn:n<=1000000000):ACalls Tryz.prog 171 [.sl n (λj=> [.str (g j)]),.str x] h (.bool (jx (λj=>decide (x=g j)) n)) h:=
 A9 MP ⟨rfl,rfl⟩ ⟨rfl,rfl⟩ (XJ n g x h hn)
end RC
end
section
namespace AF
open Go
theorem Wk.kill{t:w7}{h:w6}{k v:Nat}{ty:TypeId}{cs:w7}(hk:qv k h=some (.mem v ty cs)):Wk t h t (qu k h (.emp (v+1))):=by
 intro N w σ a H;have hkl:k<σ.length:=by rw[H.hr.len];exact zA hk
 have ho:=zG hkl;obtain⟨m1,_⟩:=H.hr.obj k _ _ hk ho;obtain⟨g1,g2⟩:=H.hr.kill ho;rw[m1]at g1 g2;exact⟨_,⟨g1,H.sz,λi c x hc hx=>(H.tm i c x hc hx).ext g2,xp g2 H.df⟩,g2⟩
end AF
end
section
open Go Go.Proofs AF HY LN
namespace RC
theorem rf{p q:Nat->Bool}{n:Nat}(h: ∀i,i<n->p i=q i):jx p n=jx q n:=by
 cases e:jx q n with
 |true=>obtain⟨i,h1,h2⟩:=qS.1 e;exact qS.2 ⟨i,h1,by rw[h i h1,h2]⟩
 |false=>exact qr.2 λi hi=>by rw[h i hi];exact qr.1 e i hi
structure Szs (names:List Str) (gs:List Gr):Prop where
 n:names.length<=1000000000
 g:gs.length<=1000000000
 ns: ∀i,(names.getD i []).length<=1000000000
 gn: ∀i,(gs.getD i default).name.length<=1000000000
 gm: ∀i,(gs.getD i default).mem.length<=1000000000
def qde(l:List Int):Nat:=l.foldl (λa n=>a|||2^n.toNat) 0
def inB(b:Int)(l:List Int):Prop:= ∀i,i<l.length->0<=l.getD i 0∧l.getD i 0<b
theorem BN(l:List Int): ∀a:Nat,a<2^64->(∀n∈l,0<=n∧n<64)->l.foldl (λa n=>a|||2^n.toNat) a<2^64∧ ∀i,(l.foldl (λa n=>a|||2^n.toNat) a).testBit i=(a.testBit i||decide ((i:Int)∈l)):=by
 induction l with
 |nil=>intro a ha _;exact⟨ha,λi=>by simp⟩
 |cons n l ih=>
  intro a ha hl;have hn:=hl n (by simp);obtain⟨h1,h2⟩:=ih (a|||2^n.toNat) (Nat.or_lt_two_pow ha (Nat.pow_lt_pow_right om om)) (λm hm=>hl m (by simp[hm]));refine⟨h1,λi=> ?_⟩;rw[List.foldl_cons,h2 i,Nat.testBit_or,Nat.testBit_two_pow]
  by_cases e:(i:Int)=n
  ·have e':n.toNat=i:=by omega
   simp[e,e']
  ·have e': ¬n.toNat=i:=by omega
   simp[e,e']
theorem bI{l:List Int}{b:Int}(h:inB b l): ∀n∈l,0<=n∧n<b:=by
 intro n hn;obtain⟨i,hi,e⟩:=List.getElem_of_mem hn
 have:=h i hi
 rw[gdqA,zG hi]at this;rw[<-e];exact this
theorem OP{l:List Int}(h:inB 64 l):qde l<2^64:=(BN l 0 (by decide) (bI h)).1
theorem EO{l:List Int}(h:inB 64 l)(i:Nat):(qde l).testBit i=decide ((i:Int)∈l):=by
 have:=(BN l 0 (by decide) (bI h)).2 i
 rw[Nat.zero_testBit,Bool.false_or]at this;exact this
def ZJ(p:Nat->Bool)(k:Nat):List Int:=((List.range k).filter p).map Int.ofNat
def qT(L:List Int):w7:=L.map λn=> .int .i64 n
theorem jy(L:List Int):(qT L).length=L.length:=by simp[qT]
theorem i7(L M:List Int):qT (L++M)=qT L++qT M:=by simp[qT]
theorem ZA{L:List Int}:qT L= []↔L= []:=by simp[qT]
theorem lg{L:List Int}{n:Nat}(g:AV->AV)(hg: ∀n,g (.int .i64 n)= .int .i64 n)(hn:n=L.length):VLe (.sl n λi=>(((qT L).drop i).take 1).map g) (qz L):=by
 subst hn;refine VLe.sl_eq rfl (λi hi=> ?_);unfold qT;rw[<-List.map_drop,List.drop_eq_getElem_cons hi,List.map_cons,List.take_succ_cons,List.take_zero,List.map_cons,List.map_nil,hg,gdqA,zG hi];rfl
theorem rK(L:List Int):(qz L).flag=true:=rfl
theorem nP(L:List Int):(qz L).strip=qz L:=rfl
theorem Zl{fz:Nat->Bool}{h:w6}{n:Nat}(L:List Int):frz fz h (n+1) (qz L)=qz L:=rfl
theorem JE{fz:Nat->Bool}{h:w6}{n:Nat}(L:List Int):rei fz h (n+1) (qz L)=qz L:=rfl
theorem Q5(L:List Str):(strs L).flag=true:=rfl
theorem s5(L:List Str):(strs L).strip=strs L:=rfl
theorem Xs{fz:Nat->Bool}{h:w6}{n:Nat}(L:List Str):frz fz h (n+1) (strs L)=strs L:=rfl
theorem YF{fz:Nat->Bool}{h:w6}{n:Nat}(L:List Str):rei fz h (n+1) (strs L)=strs L:=rfl
theorem Q2(L:List Gr):(VM L).flag=true:=rfl
theorem sX(L:List Gr):(VM L).strip=VM L:=rfl
theorem Xp{fz:Nat->Bool}{h:w6}{n:Nat}(L:List Gr):frz fz h (n+1) (VM L)=VM L:=rfl
theorem YD{fz:Nat->Bool}{h:w6}{n:Nat}(L:List Gr):rei fz h (n+1) (VM L)=VM L:=rfl
attribute [go_sem] rK nP Zl JE Q5 s5 Xs YF Q2 sX Xp YD
def nIx(names:List Str)(s:Str):Int:=yM (λj=>decide (s=names.getD j [])) names.length 0
def gIx(gs:List Gr)(s:Str):Int:=yM (λj=>decide (s=(gs.getD j default).name)) gs.length 0
def YV(names:List Str)(gs:List Gr)(sg:List Str)(i:Nat):Int:=
 if nIx names (sg.getD i [])<0∧gIx gs (sg.getD i [])<0 then 6 else if jx (λj=>decide (sg.getD i []=sg.getD j [])) i=true then 7 else 0
def els(names:List Str)(gs:List Gr)(s:Str):List Int:=if 0<=nIx names s then [nIx names s] else (gs.getD (gIx gs s).toNat default).mem
def AU(names:List Str)(gs:List Gr)(sg:List Str):Nat->Nat
 |0=>0
 |i+1=>AU names gs sg i|||qde (els names gs (sg.getD i []))
def rG(names:List Str)(gs:List Gr)(sg:List Str):Int:=if sgE names gs≠0 then 1 else xM (YV names gs sg) 0 sg.length
def dx(names:List Str)(gs:List Gr)(sg:List Str):List Int:=if rG names gs sg=0 then ZJ (AU names gs sg sg.length).testBit 64 else []
theorem F7{b:Int}{l:List Int}(h:qbA b l=0):inB b l∧ ∀i,0<i->i<l.length->l.getD (i-1) 0<l.getD i 0:=by
 unfold qbA at h;rw[jE]at h;refine⟨λi hi=> ?_,λi h0 hi=> ?_⟩
 ·have:=h i hi
  unfold F6 at this;split at this
  ·cases this
  ·rename_i hc;omega
 ·have:=h i hi
  unfold F6 at this;split at this
  ·cases this
  ·split at this
   ·cases this
   ·rename_i hc;omega
structure qbr (names:List Str) (gs:List Gr):Prop where
 n32:names.length<=32
 g16:gs.length<=16
 na: ∀i,i<names.length->jT names i=0
 gr: ∀i,i<gs.length->Em names gs i=0
theorem B5{names:List Str}{gs:List Gr}(h:sgE names gs=0):qbr names gs:=by
 unfold sgE at h;split at h
 ·cases h
 split at h
 ·rename_i h1;exact absurd h h1
 split at h
 ·cases h
 rename_i h1 h2 h3;exact⟨om,om,jE.1 (by simpa using h2),jE.1 h⟩
theorem Eo{names:List Str}{gs:List Gr}(h:qbr names gs){i:Nat}(hi:i<gs.length):qbA names.length (gs.getD i default).mem=0:=by
 have:=h.gr i hi
 unfold Em at this
 repeat' split at this
 all_goals first|(cases this;done)|exact this
theorem ZK(names:List Str)(s:Str):(∃k:Nat,k<names.length∧names.getD k []=s∧nIx names s=k)∨((∀j,j<names.length->s≠names.getD j [])∧nIx names s= -1):=by
 rcases zI (λj=>decide (s=names.getD j [])) names.length with⟨i,h1,h2,_,h4⟩|⟨h1,h2⟩
 ·exact .inl ⟨i,h1,(of_decide_eq_true h2).symm,h4⟩
 ·exact .inr ⟨λj hj=>of_decide_eq_false (h1 j hj),h2⟩
theorem Zm(gs:List Gr)(s:Str):(∃k:Nat,k<gs.length∧(gs.getD k default).name=s∧gIx gs s=k)∨((∀j,j<gs.length->s≠(gs.getD j default).name)∧gIx gs s= -1):=by
 rcases zI (λj=>decide (s=(gs.getD j default).name)) gs.length with⟨i,h1,h2,_,h4⟩|⟨h1,h2⟩
 ·exact .inl ⟨i,h1,(of_decide_eq_true h2).symm,h4⟩
 ·exact .inr ⟨λj hj=>of_decide_eq_false (h1 j hj),h2⟩
theorem QO{names:List Str}{gs:List Gr}{s:Str}(h:qbr names gs)(hf: ¬(nIx names s<0∧gIx gs s<0)):inB names.length (els names gs s):=by
 unfold els;rcases ZK names s with⟨k,h1,_,h3⟩|⟨_,h3⟩
 ·rw[h3,ipo om];intro i hi
  have:i=0:=by simpa using hi
  subst this;simp only[List.getD_cons_zero];omega
 ·rw[h3,ine om];rcases Zm gs s with⟨k,g1,_,g3⟩|⟨_,g3⟩
  ·rw[g3,itn];exact (F7 (Eo h g1)).1
  ·exact absurd ⟨om,om⟩ hf
theorem oZ{b c:Int}{l:List Int}(h:inB b l)(hbc:b<=c):inB c l:=λi hi=>⟨(h i hi).1,by have:=(h i hi).2;omega⟩
theorem CE{names:List Str}{gs:List Gr}{sg:List Str}(h:qbr names gs): ∀ {i:Nat},(∀j,j<i->YV names gs sg j=0)->AU names gs sg i<2^64∧ ∀k,(AU names gs sg i).testBit k=decide (∃j,j<i∧(k:Int)∈els names gs (sg.getD j [])):=by
 intro i
 induction i with
 |zero=>intro _;exact⟨Nat.two_pow_pos 64,λk=>by simp[AU]⟩
 |succ i ih=>
  intro hz;obtain⟨h1,h2⟩:=ih (λj hj=>hz j om);have h3: ¬(nIx names (sg.getD i [])<0∧gIx gs (sg.getD i [])<0):=by
   intro hc
   have:=hz i om
   unfold YV at this;rw[ipo hc]at this;cases this
  have h4:inB 64 (els names gs (sg.getD i [])):=oZ (QO h h3) (by have:=h.n32;omega);refine⟨Nat.or_lt_two_pow h1 (OP h4),λk=> ?_⟩;unfold AU;rw[Nat.testBit_or,h2 k,EO h4 k,<-Bool.decide_or];refine decide_eq_decide.2 ⟨?_,?_⟩
  ·rintro (⟨j,hj,hm⟩|hm)
   ·exact⟨j,om,hm⟩
   ·exact⟨i,om,hm⟩
  ·rintro⟨j,hj,hm⟩
   by_cases e:j=i
   ·subst e;exact .inr hm
   ·exact .inl ⟨j,om,hm⟩
end RC
end
section
namespace AF
open Go Go.RowKit
theorem Ext.ofBelow{w w':World}{σ:List OB}{h:w6}(H:HR w σ h)(hb:Below w.heap.size w w'):HR w' σ h∧Ext w σ w' σ:=by
 have e:Ext w σ w' σ:=⟨hb.os,hb.tape,hb.output,hb.size,λb hl _=>hb.block b hl,λ_ h=> .inl h,λ_ o h=>⟨o,h,nlr _,λ_=>rfl⟩,
  λb r h=>⟨r,(hb.block b (Array.getElem?_eq_some_iff.1 h).1).trans h⟩⟩
 exact⟨⟨H.len,H.inj,λk o b h1 h2=>Nat.lt_of_lt_of_le (H.lt k o b h1 h2) hb.size,λk a o h1 h2=>(H.obj k a o h1 h2).ext e (λb h3=>hb.block b (H.lt k o b h2 h3))⟩,e⟩
end AF
end
section
namespace AF
open Go Go.ChangeShapes Go.WideShapes Go.ChangeAt Go.RowKit
def Jo:OB:=⟨none,0,0,0⟩
theorem mZ(b:Nat): ¬own [Jo] b:=by
 rintro⟨k,o,h,h2⟩;cases k with
 |zero=>simp at h;subst h;cases h2
 |succ k=>simp at h
theorem OG{w:World}{bs:List Nat}{G:World->Prop}(hb: ∀b,b∈bs-> ∃arr T fz,w.heap[b]? =some (.cells arr T fz))(hG: ∀w':World,(∀b,b∈bs->w'.heap[b]? =w.heap[b]?)->G w'):
  HR w [Jo] [.pin bs G]:=by
 refine⟨rfl,?_,?_,?_⟩
 ·intro i j oi oj b hi hj bi;cases i with
  |zero=>simp at hi;subst hi;cases bi
  |succ i=>simp at hi
 ·intro k o b hk hb';cases k with
  |zero=>simp at hk;subst hk;cases hb'
  |succ k=>simp at hk
 ·intro k a o ha ho;cases k with
  |zero=>
   simp at ha ho;subst ha;subst ho;exact⟨rfl,rfl,λb h=>⟨mZ b,hb b h⟩,hG⟩
  |succ k=>simp at ha
theorem D1(w:World):Ext w [] w [Jo]:=
 ⟨rfl,rfl,rfl,nlr _,λ_ _ _=>rfl,λb h=>absurd h (mZ b),λk o h=>by simp at h,λ_ r h=>⟨r,h⟩⟩
theorem ub{w w':World}{σ':List OB}(h:Ext w [Jo] w' σ'):Below w.heap.size w w':=⟨h.os,h.tape,h.output,h.size,λk hk=>h.keep k hk (mZ k)⟩
theorem VRs.ext{w w':World}{σ σ':List OB}(h:Ext w σ w' σ'){avs:w7}{xs:List Value}(hv:VRs w σ avs xs):VRs w' σ' avs xs:=⟨hv.1,λi c x hc hx=>(hv.2 i c x hc hx).ext h⟩
theorem Pe{w:World}{σ:List OB}{h:w6}{k:Nat}{bs:List Nat}{G:World->Prop}(H:HR w σ h)(hk:h[k]? =some (.pin bs G)):G w:=by
 have hl:k<σ.length:=by rw[H.len];exact (lgs.1 hk).1
 obtain⟨_,_,_,h4⟩:=H.obj k _ σ[k] hk (zG hl);exact h4 w (λ_ _=>rfl)
theorem xw{H:Type}{enc:TypeId×Value->H}{P:Program}{W:World}{f:Func}{fid:FuncId}{s:ChangeSpec}{args:Array Value}{ds gs:List (DataW H)}{before:List MemPlace}{tb:TypeId}{bs:List Nat}{G:World->Prop}
  (hl:laidOutB P=true) (hv:s.vars= []) (hfn: ∀ds',ds'.length=f.params.size->s.fn H ds'= { results:= [.lit (.bool true)],args:=ds' })
  (hrt:f.resultTypes= #[tb]) (htb:P.underlying tb=some .bool) (hro: ∀t∈f.params.toList,P.readableRec t=true∧t<P.types.size)
  (hW:DataW.Whole enc P f.params.toList s.vars false W args.toList ds gs before)
  (hb: ∀b,b∈bs-> ∃arr T fz,W.heap[b]? =some (.cells arr T fz)) (hG: ∀w':World,(∀b,b∈bs->w'.heap[b]? =W.heap[b]?)->G w')
  (hc: ∀p,DataW.TrodAll enc P W 0 (λ_=>true) true f.params.toList args.toList ds p->ds.length=f.params.size∧ ∃avs:w7,VRs W [] avs args.toList∧ACalls P fid avs [.pin bs G] (.bool true) [.pin bs G]):
  Calls P fid args W λe W'=> ∃v,e= .returned v∧s.post enc P f false true false false W args v W':=by
 have hW':=hW;obtain⟨p,q,hA,hV,rfl,hz,_⟩:=hW;rw[hv]at hV;obtain⟨rfl,rfl⟩:=trodVars_none hV;obtain⟨hlen,avs,h1,h2⟩:=hc p hA;rw[lan]at hW';have h3:=h2.2 W [Jo] args.toList (OG hb hG) (h1.ext (D1 W));rw[Array.toArray_toList]at h3;refine (callsIn_wide.1 h3).mono ?_;rintro e W' ⟨v,σ',rfl,g1,g2,g3⟩;obtain rfl:=jX g2;exact⟨_,rfl,XK hl hv (hfn ds hlen) hrt htb hro hW' hA (ub g3)⟩
theorem hJ{P:Program}{w w':World}{name:String}{g:Nat}(hg:P.globalNamed name=some g)(h:w'.heap[g]? =w.heap[g]?):w'.var? P name=w.var? P name:=by
 unfold World.var?;rw[hg];simp only[Option.bind_some];rw[h]
theorem du{P:Program}{w:World}{name:String}{g:Nat}{cs:Array Value}(hg:P.globalNamed name=some g)(h:w.var? P name=some cs): ∃arr T fz,w.heap[g]? =some (.cells arr T fz):=by
 unfold World.var? at h;rw[hg]at h;simp only[Option.bind_some]at h;split at h
 ·rename_i cs T fz hc;exact⟨_,_,_,hc⟩
 ·cases h
end AF
end
section
open Go Go.Proofs AF HY
namespace LN
def Ci (w : World) : Prop := Lib.TabIs Tryz.prog w "internal/strconv.uint64pow10" .u64 Lib.pow10Tab
def qbp (w : World) : Prop := (∃ tp p, w.var? Tryz.prog "strconv.ErrSyntax" = some #[.iface tp p]) ∧ ∃ tp p, w.var? Tryz.prog "strconv.ErrRange" = some #[.iface tp p]
def kt(Q:World->Prop)(h:w6):Prop:= ∃(k:Nat) (bs:List Nat) (G:World->Prop),h[k]? =some (.pin bs G)∧ ∀w,G w->Q w
theorem kt.app{Q:World->Prop}{h:w6}(hp:kt Q h)(l:w6):kt Q (h++l):=by
 obtain⟨k,bs,G,h1,h2⟩:=hp;exact⟨k,bs,G,by rw[List.getElem?_append_left (lgs.1 h1).1];exact h1,h2⟩
theorem kt.mono{Q Q':World->Prop}{h:w6}(hp:kt Q h)(hq: ∀w,Q w->Q' w):kt Q' h:=by
 obtain⟨k,bs,G,h1,h2⟩:=hp;exact⟨k,bs,G,h1,λw hw=>hq w (h2 w hw)⟩
theorem kt.of{Q:World->Prop}{h:w6}{w:World}{σ:List OB}(hp:kt Q h)(H:HR w σ h):Q w:=by
 obtain⟨k,bs,G,h1,h2⟩:=hp;exact h2 w (Pe H h1)
theorem t48(n:Int)(h:w6)(hp:kt Ci h)(h0: -9223372036854775808<=n)(h1:n<=9223372036854775807):ACalls Tryz.prog 115 [.int .i64 n] h (.str (Lib.itoa n)) h:=by
 refine⟨BS Tryz.func115 (by kernel_rfl) (by kernel_rfl),λw σ xs H hv=> ?_⟩;obtain⟨x,rfl,hx⟩:=hv.one;rw[zY hx];refine (callsIn_wide.2 (Any.strconv_Itoa Tryz.laysM171 n h0 h1 w (hp.of H))).mono ?_;rintro e w' ⟨rfl,k,os,rfl⟩;obtain⟨g1,g2⟩:=Ext.ofBelow H (Lib.below_grow w.heap.size w (nlr _) k os);exact⟨_,σ,rfl,g1,.imm .str,g2⟩
def HF(s:List UInt8):Int:=
 match Lib.atoiAll s with
 | .ok _=>0
 | .range=>Lib.atoiSat s
 |_=>0
def CL(s:List UInt8):AV:=
 match Lib.atoiAll s with
 | .ok v=> .tup [.int .i64 v,.nilif]
 |_=> .tup [.int .i64 (HF s),.ifc]
theorem t50(s:List UInt8)(h:w6)(hp:kt qbp h)(hl:s.length<=281474976710656):ACalls Tryz.prog 270 [.str s] h (CL s) h:=by
 refine⟨BS Tryz.func270 (by kernel_rfl) (by kernel_rfl),λw σ xs H hv=> ?_⟩;obtain⟨x,rfl,hx⟩:=hv.one;rw[kl hx];have hsz:(⟨s.toArray⟩:ByteArray).size<=281474976710656:=by simpa[ByteArray.size] using hl
 obtain⟨⟨t1,p1,e1⟩,t2,p2,e2⟩:=hp.of H;unfold CL HF;have hd:(⟨s.toArray⟩:ByteArray).data.toList=s:=rfl;cases hs:Lib.atoiAll s
 ·rename_i v;refine (callsIn_wide.2 (Any.strconv_Atoi_ok Tryz.laysC172 ⟨s.toArray⟩ om v (by rw[hd];exact hs) w)).mono ?_;rintro e w' ⟨rfl,hw⟩;have hb:Go.RowKit.Below w.heap.size w w':=by
   rcases hw with rfl|⟨t,rfl⟩
   ·exact Go.RowKit.Below.refl _ _
   ·exact Lib.bytesWorld_below _ _ _
  obtain⟨g1,g2⟩:=Ext.ofBelow H hb;refine⟨_,σ,rfl,g1,.imm (.tup rfl (λi c y hc hy=> ?_)),g2⟩
  match i with
  |0=>simp at hc hy;subst hc hy;exact .int
  |1=>simp at hc hy;subst hc hy;exact .nilif
  |i+2=>simp at hc
 ·refine (callsIn_wide.2 (Any.strconv_Atoi_syntax_var Tryz.laysC172 ⟨s.toArray⟩ hsz (by rw[hd];exact hs) t1 p1 w e1)).mono ?_;rintro e w' ⟨N,rfl,_,_,hb⟩;obtain⟨g1,g2⟩:=Ext.ofBelow H hb;refine⟨_,σ,rfl,g1,.imm (.tup rfl (λi c y hc hy=> ?_)),g2⟩
  match i with
  |0=>simp at hc hy;subst hc hy;exact .int
  |1=>simp at hc hy;subst hc hy;exact .ifc
  |i+2=>simp at hc
 ·refine (callsIn_wide.2 (Any.strconv_Atoi_range_var Tryz.laysC172 ⟨s.toArray⟩ hsz (by rw[hd];exact hs) t2 p2 w e2)).mono ?_;rintro e w' ⟨N,rfl,_,_,hb⟩;obtain⟨g1,g2⟩:=Ext.ofBelow H hb;refine⟨_,σ,rfl,g1,.imm (.tup rfl (λi c y hc hy=> ?_)),g2⟩
  match i with
  |0=>simp at hc hy;subst hc hy;exact .int
  |1=>simp at hc hy;subst hc hy;exact .ifc
  |i+2=>simp at hc
theorem Z7: ∀(l r:List UInt8) (acc:Nat),Lib.parseUint10 acc (l++r)=match Lib.parseUint10 acc l with
  | .ok v=>Lib.parseUint10 v r
  |e=>e:=by
 intro l
 induction l with
 |nil=>intro r acc;rfl
 |cons c l ih=>
  intro r acc;rw[lca,Lib.parseUint10,Lib.parseUint10]
  by_cases h1:48<=c.toNat∧c.toNat<=57
  ·rw[ipo h1,ipo h1]
   by_cases h2:1844674407370955162<=acc
   ·rw[ipo h2,ipo h2]
   ·rw[ine h2,ine h2]
    by_cases h3:18446744073709551616<=acc*10+(c.toNat-48)
    ·rw[ipo h3,ipo h3]
    ·rw[ine h3,ine h3];exact ih r _
  ·rw[ine h1,ine h1]
theorem fA{d:Nat}(h:d<10):(UInt8.ofNat (48+d)).toNat=48+d:=by
 rw[UInt8.toNat_ofNat'];omega
theorem Z8: ∀u,u<1000000000->Lib.parseUint10 0 (Lib.decDigits u)= .ok u:=by
 intro u
 induction u using Nat.strongRecOn with
 |_ u ih=>
  intro hu
  by_cases h:u<10
  ·rw[Lib.decDigits,dif_pos h,Lib.parseUint10,fA h,ipo om,ine om,ine om,Lib.parseUint10];congr 1;omega
  ·rw[Lib.decDigits,dif_neg h,Z7,ih (u/10) om om];simp only;rw[Lib.parseUint10,fA om,ipo om,ine om,ine om,Lib.parseUint10];congr 1;omega
theorem rD: ∀u,∀c∈Lib.decDigits u,48<=c.toNat∧c.toNat<=57:=by
 intro u
 induction u using Nat.strongRecOn with
 |_ u ih=>
  intro c hc
  by_cases h:u<10
  ·rw[Lib.decDigits,dif_pos h,List.mem_singleton]at hc;subst hc;rw[fA h];omega
  ·rw[Lib.decDigits,dif_neg h]at hc;rcases List.mem_append.1 hc with hc|hc
   ·exact ih (u/10) om c hc
   ·rw[List.mem_singleton]at hc;subst hc;rw[fA om];omega
theorem Lx(u:Nat):Lib.decDigits u≠ []:=by
 intro h
 have:=Lib.decDigits_length u
 have:=Lib.nDigits_pos u
 rw[h]at*;simp at*;omega
theorem t8{n:Int}(h0:0<=n)(h1:n<1000000000):Lib.atoiAll (Lib.itoa n)= .ok n:=by
 obtain⟨u,rfl⟩: ∃u:Nat,n=u:=⟨n.toNat,om⟩
 rw[Lib.itoa_nonneg];have hd:=rD u;have hp:=Z8 u om;have hne:=Lx u;cases hl:Lib.decDigits u with
 |nil=>exact absurd hl hne
 |cons c r=>
  rw[hl]at hd hp;have hc:=hd c (List.mem_cons_self ..);unfold Lib.atoiAll;simp only;rw[ine (show¬(c.toNat=43∨c.toNat=45) by omega)];unfold Lib.parseMag;rw[ine (by simp),hp];simp only;rw[ine om,ine om,ine om]
end LN
end
section
open Go Go.Proofs AF HY LN
namespace RC
theorem V0{s:Str}{v:Int}(h:Lib.atoiAll s= .ok v): -9223372036854775808<=v∧v<=9223372036854775807:=by
 unfold Lib.atoiAll at h;split at h
 ·cases h
 ·simp only at h;split at h
  ·cases h
  ·cases h
  ·split at h
   ·cases h
   ·split at h
    ·cases h
    ·rename_i h1 h2;cases h;split
     ·rename_i h3;have:=mt (And.intro h3) h2;omega
     ·rename_i h3;have:=mt (And.intro h3) h1;omega
theorem mT{k:Nat}(h:k<=64):(Lib.itoa (k:Int)).length<=9:=by
 rw[Lib.itoa_nonneg]
 by_cases g:k<10
 ·rw[Lib.decDigits,dif_pos g];simp
 ·rw[Lib.decDigits,dif_neg g,Lib.decDigits,dif_pos (show k/10<10 by omega)];simp
def SG(w:World):Prop:=Ci w∧qbp w
theorem SG.pow{h:w6}(hp:kt SG h):kt Ci h:=hp.mono λ_ h=>h.1
theorem SG.err{h:w6}(hp:kt SG h):kt qbp h:=hp.mono λ_ h=>h.2
def pre(s:Str):Bool:=decide (1<=s.length)&&decide (s.take 1= [91])
def iU(s:Str):Bool:=(List.range 64).any λk=>decide (s=91::(Lib.itoa ((k+1:Nat):Int)++ [93]))
def qd8(s:Str):Bool:=kU s||(if s.length=1 then decide (kind (ch s 0)=5)||decide (kind (ch s 0)=4) else iU s)
def wE(s:Str):Int:=if qd8 s=true then 0 else 11
def VJ(L:List Str):Int:=xM (λi=>wE (L.getD i [])) 0 L.length
theorem qeF(a b c:Str)(n f g:Int)(d:Str)(h:w6)(hf:0<=f)(hf2:f<=31)(hg:0<g):ACalls Tryz.prog 190 [.agg [.str a,.str b,.str c,.int .i64 n,.int .i64 f,.str d],.int .i64 g] h (.bool (decide (f/g%2=1))) h:=by
 have k1:(g=0)=False:=xD;have k2:0<=f/g:=Int.ediv_nonneg hf om;have k3:f/g<=f:=Int.ediv_le_self _ hf;refine acO M9 ?_;simp (disch:=omega) only[It,go_sem]
 repeat' first|exact wj|with_reducible apply aiA|exact clz|fail
theorem qfv(s:Str)(h:w6)(hs:s.length<=1000000000)(hp:kt SG h):ACalls Tryz.prog 191 [.str s] h (.bool (iU s)) h:=by
 refine acO Na ?_;simp (disch:=omega) only[Iu,go_sem];refine qp (T:=λi:Nat=>zw 14 [(0,.str s),(3,.int .i64 ((i+1:Nat):Int))]) (H:=λ_=>h) (inv:=λi=>i<=64∧ ∀j,j<i->s≠91::(Lib.itoa ((j+1:Nat):Int)++ [93])) (m:=λi=>64-i) 0 ⟨nzl _,λj hj=>absurd hj (nnz j)⟩ (Wk.temps ?_) ?_
 ·(simp only[go_sem,qg,qc,qa,qf];try exact wr)
 rintro i ⟨i1,i2⟩ K hK;have ec:((i+1:Nat):Int)=(i:Int)+1:=by omega
 by_cases hi:i<64
 ·have k1:((i:Int)+1<=64)=True:=xv;have c181:=t48 ((i:Int)+1) h (SG.pow hp) om om;have hl:(Lib.itoa ((i:Int)+1)).length<=9:=by rw[<-ec];exact mT om
  obtain⟨t,ht⟩:=wD (Lib.itoa ((i:Int)+1))
  rw[<-ht]at c181 hl
  by_cases g:s=91::(t++ [93])
  ·have q1:(s=91::(t++ [93]))=True:=eqt g;have hV:iU s=true:=by
    unfold iU;rw[List.any_eq_true];exact⟨i,by simpa using hi,dqt (by rw[ec,<-ht];exact g)⟩
   rw[hV];simp (disch:=omega) only[ec,k1,go_sem]
   repeat' first|(refine cA (c181) flk ?_;simp (disch:=omega) only[q1,go_sem])|exact wm|with_reducible apply aiA|exact clz|fail
  ·have q1:(s=91::(t++ [93]))=False:=eqf g;simp (disch:=omega) only[ec,k1,go_sem]
   repeat' first|(refine cA (c181) flk ?_;simp (disch:=omega) only[q1,go_sem])|with_reducible apply aiA|exact clz|fail
   refine hK _ _ (i+1) ⟨hi,λj hj=> ?_⟩ om (Wk.temps ?_)
   ·by_cases e':j=i
    ·subst e';rw[ec,<-ht];exact g
    ·exact i2 j om
   ·(simp only[go_sem,qg,qc,qa,qf];try exact wr)
 ·have k1:((i:Int)+1<=64)=False:=xD;have hV:iU s=false:=by
   cases e:iU s with
   |false=>rfl
   |true=>
    unfold iU at e;rw[List.any_eq_true]at e;obtain⟨j,hj,e⟩:=e;exact absurd (of_decide_eq_true e) (i2 j (by have:j<64:=(by simpa using hj);omega))
  rw[hV];simp (disch:=omega) only[ec,k1,go_sem]
  repeat' first|exact wm|fail
def A2(C L:List Int):List Int:=L.foldl (λC n=>C.set n.toNat (C.getD n.toNat 0+1)) C
theorem Wb(L:List Int): ∀C:List Int,(A2 C L).length=C.length:=by
 induction L with
 |nil=>intro C;rfl
 |cons n L ih=>intro C;show (A2 (C.set _ _) L).length=_;rw[ih];simp
theorem Zy{C:List Int}{n:Nat}(h:n<C.length):(qT C)[n]? =some (.int .i64 (C.getD n 0)):=by
 unfold qT;rw[List.getElem?_map,zG h,gdqA,zG h];rfl
theorem WV{names:List Str}{gs:List Gr}{sg:List Str}:inB names.length (dx names gs sg)∧ ∀i,0<i->i<(dx names gs sg).length->(dx names gs sg).getD (i-1) 0<(dx names gs sg).getD i 0:=by
 unfold dx;split
 ·rename_i h;have h':=h;unfold rG at h';split at h'
  ·cases h'
  rename_i h1;have hok:=B5 (by simpa using h1);have hz:=jE.1 h';obtain⟨m1,m2⟩:=CE hok hz;have hsort:(ZJ (AU names gs sg sg.length).testBit 64).Pairwise (· < ·):=by
   unfold ZJ;rw[List.pairwise_map];exact (List.pairwise_lt_range.filter _).imp (λh=>Int.ofNat_lt.2 h)
  have hmem: ∀n∈ZJ (AU names gs sg sg.length).testBit 64,0<=n∧n<names.length:=by
   intro n hn;unfold ZJ at hn;obtain⟨k,hk,rfl⟩:=List.mem_map.1 hn;have hk2:=(List.mem_filter.1 hk).2;rw[m2 k]at hk2;obtain⟨j,hj,hm⟩:=of_decide_eq_true hk2;have hf: ¬(nIx names (sg.getD j [])<0∧gIx gs (sg.getD j [])<0):=by
    intro hc
    have:=hz j hj
    unfold YV at this;rw[ipo hc]at this;cases this
   exact bI (QO hok hf) _ hm
  refine⟨λi hi=> ?_,λi h0 hi=> ?_⟩
  ·rw[gdqA,zG hi];exact hmem _ (List.getElem_mem hi)
  ·rw[gdqA,gdqA,zG hi,zG (show i-1<_ by omega)];exact List.pairwise_iff_getElem.1 hsort (i-1) i om hi om
 ·exact⟨λi hi=>absurd hi (nnz i),λi _ hi=>absurd hi (nnz i)⟩
theorem WW{names:List Str}{gs:List Gr}{sg:List Str}:inB 32 (dx names gs sg):=by
 by_cases h:rG names gs sg=0
 ·have h':=h;unfold rG at h';split at h'
  ·cases h'
  rename_i h1;have hok:=B5 (by simpa using h1);exact oZ WV.1 (by have:=hok.n32;omega)
 ·have:dx names gs sg= []:=by unfold dx;rw[ine h]
  rw[this];exact λi hi=>absurd hi (nnz i)
structure Tk where
 text:Str
 norm:Str
 page:Str
 line:Int
 flags:Int
 name:Str
 deriving Inhabited, DecidableEq
def tkC(t:Tk):w7:= [.str t.text,.str t.norm,.str t.page,.int .i64 t.line,.int .i64 t.flags,.str t.name]
def zX(l:List Tk):AV:= .sl l.length λi=>tkC (l.getD i default)
def qm(L:List (List Tk)):AV:= .sl L.length λi=> [zX (L.getD i [])]
def qo(L:List (List Int)):AV:= .sl L.length λi=> [qz (L.getD i [])]
structure Co where
 sec:Str
 sig:List Str
 tok:List (List Tk)
 col:List (List Int)
 deriving Inhabited
def coC(x:Co):w7:= [.str x.sec,strs x.sig,qm x.tok,qo x.col]
structure Rd where
 words:List Str
 src:List Int
 deriving Inhabited, DecidableEq
def rdC(r:Rd):w7:= [strs r.words,qz r.src]
def j6(l:List Rd):AV:= .sl l.length λi=>rdC (l.getD i default)
structure Un where
 frm:Int
 to:Int
 rds:List Rd
 deriving Inhabited, DecidableEq
def unC(u:Un):w7:= [.int .i64 u.frm,.int .i64 u.to,j6 u.rds]
def zf(l:List Un):AV:= .sl l.length λi=>unC (l.getD i default)
structure Wd where
 text:Str
 col:Int
 unit:Int
 dec:Int
 joined:Bool
 verse:Bool
 name:Str
 deriving Inhabited, DecidableEq
def wdC(w:Wd):w7:= [.str w.text,.int .i64 w.col,.int .i64 w.unit,.int .i64 w.dec,.bool w.joined,.bool w.verse,.str w.name]
def zV(l:List Wd):AV:= .sl l.length λi=>wdC (l.getD i default)
theorem flag_tksV(L:List Tk):(zX L).flag=true:=rfl
theorem strip_tksV(L:List Tk):(zX L).strip=zX L:=rfl
theorem flag_tkssV(L:List (List Tk)):(qm L).flag=true:=rfl
theorem strip_tkssV(L:List (List Tk)):(qm L).strip=qm L:=rfl
theorem flag_colsV(L:List (List Int)):(qo L).flag=true:=rfl
theorem strip_colsV(L:List (List Int)):(qo L).strip=qo L:=rfl
theorem flag_rdsV(L:List Rd):(j6 L).flag=true:=rfl
theorem strip_rdsV(L:List Rd):(j6 L).strip=j6 L:=rfl
theorem flag_unsV(L:List Un):(zf L).flag=true:=rfl
theorem strip_unsV(L:List Un):(zf L).strip=zf L:=rfl
theorem flag_wdsV(L:List Wd):(zV L).flag=true:=rfl
theorem strip_wdsV(L:List Wd):(zV L).strip=zV L:=rfl
section
variable {fz : Nat -> Bool} {h : w6} {n : Nat}
theorem rei_tksV(L:List Tk):rei fz h (n+1) (zX L)=zX L:=rfl
theorem rei_tkssV(L:List (List Tk)):rei fz h (n+1) (qm L)=qm L:=rfl
theorem rei_colsV(L:List (List Int)):rei fz h (n+1) (qo L)=qo L:=rfl
theorem rei_rdsV(L:List Rd):rei fz h (n+1) (j6 L)=j6 L:=rfl
theorem rei_unsV(L:List Un):rei fz h (n+1) (zf L)=zf L:=rfl
theorem rei_wdsV(L:List Wd):rei fz h (n+1) (zV L)=zV L:=rfl
theorem frz_tksV(L:List Tk):frz fz h (n+1) (zX L)=zX L:=rfl
theorem frz_tkssV(L:List (List Tk)):frz fz h (n+1) (qm L)=qm L:=rfl
theorem frz_colsV(L:List (List Int)):frz fz h (n+1) (qo L)=qo L:=rfl
theorem frz_rdsV(L:List Rd):frz fz h (n+1) (j6 L)=j6 L:=rfl
theorem frz_unsV(L:List Un):frz fz h (n+1) (zf L)=zf L:=rfl
theorem frz_wdsV(L:List Wd):frz fz h (n+1) (zV L)=zV L:=rfl
end
attribute [go_sem] flag_tksV strip_tksV flag_tkssV strip_tkssV flag_colsV strip_colsV flag_rdsV strip_rdsV flag_unsV strip_unsV flag_wdsV strip_wdsV rei_tksV rei_tkssV rei_colsV rei_rdsV rei_unsV rei_wdsV frz_tksV frz_tkssV frz_colsV frz_rdsV frz_unsV frz_wdsV
def rR(f:Int):Bool:=f.toNat.testBit 1
def mkB(f:Int):Bool:=f.toNat.testBit 3
def ZL(s:Str):Bool:=decide (s= [])||wL s
def Hh(s:Str):Bool:=decide (s.length=1)&&(decide (kind (ch s 0)=5)||decide (kind (ch s 0)=4))
def xO(c:UInt8):Bool:=decide (kind c=1)||(decide (kind c=3)||(decide (kind c=2)||decide (kind c=4)))
def Hi(s:Str):Bool:=decide (s≠ [])&&(decide (s.length<=64)&&(List.range s.length).all λi=>xO (ch s i))
def txB(t:Tk):Bool:=if rR t.flags=true then iU t.text&&decide (t.norm=t.text) else if mkB t.flags=true then Hh t.text&&decide (t.norm=t.text) else kU t.text&&Hi t.norm
def tkE(t:Tk):Int:=
 if t.flags<0∨31<t.flags then 2 else if rR t.flags=true∧mkB t.flags=true then 8 else if txB t=false then 11 else if t.line<0 then 2 else if ZL t.page=false∨ZL t.name=false then 14 else 0
def gS(l:List Tk):Int:=if 1024<l.length then 4 else if jx (λj=>decide (tkE (l.getD j default)≠0)) l.length=true then 1 else 0
def srE(x:Co):Int:=
 if wL x.sec=false then 14 else if x.sig.length=0 then 5 else if 32<x.sig.length then 4 else if xM (jT x.sig) 0 x.sig.length≠0 then xM (jT x.sig) 0 x.sig.length else
  if x.tok.length≠x.sig.length then 9 else xM (λi=>gS (x.tok.getD i [])) 0 x.tok.length
def cnC(col:List (List Int))(s:Nat):Nat->Nat
 |0=>0
 |i+1=>cnC col s i+if (col.getD i []).getD s 0= -1 then 0 else 1
def enB(tok:List (List Tk))(col:List (List Int))(i s:Nat):Bool:=
 decide ((col.getD i []).getD s 0= -1)||(decide ((col.getD i []).getD s 0=(cnC col s i:Int))&&decide ((col.getD i []).getD s 0<((tok.getD s []).length:Int)))
def iH(tok:List (List Tk))(col:List (List Int))(i:Nat):Bool:=
 decide ((col.getD i []).length=tok.length)&&(!jx (λs=> !enB tok col i s) tok.length&&jx (λs=> !decide ((col.getD i []).getD s 0= -1)) tok.length)
def alB(tok:List (List Tk))(col:List (List Int)):Bool:=
 !jx (λi=> !iH tok col i) col.length&& !jx (λs=> !decide (cnC col s col.length=(tok.getD s []).length)) tok.length
def coE(x:Co):Int:=if srE x≠0 then srE x else if alB x.tok x.col=false then 19 else 0
structure CoOk (x:Co):Prop where
 sg:0<x.sig.length∧x.sig.length<=32
 tn:x.tok.length=x.sig.length
 tl: ∀s,s<x.tok.length->(x.tok.getD s []).length<=1024
 te: ∀s,s<x.tok.length-> ∀j,j<(x.tok.getD s []).length->tkE ((x.tok.getD s []).getD j default)=0
 cl: ∀i,i<x.col.length->(x.col.getD i []).length=x.sig.length
 ce: ∀i,i<x.col.length-> ∀s,s<x.sig.length->(x.col.getD i []).getD s 0= -1∨((x.col.getD i []).getD s 0=(cnC x.col s i:Int)∧(x.col.getD i []).getD s 0<((x.tok.getD s []).length:Int))
 cs: ∀i,i<x.col.length-> ∃s,s<x.sig.length∧(x.col.getD i []).getD s 0≠ -1
 ct: ∀s,s<x.sig.length->cnC x.col s x.col.length=(x.tok.getD s []).length
theorem kh{x:Co}(h:coE x=0):CoOk x:=by
 unfold coE at h;split at h
 ·rename_i h1;exact absurd h h1
 rename_i h1;have h1:=Classical.not_not.1 h1;split at h
 ·cases h
 rename_i h2;unfold srE at h1;split at h1
 ·cases h1
 split at h1
 ·cases h1
 rename_i g2;split at h1
 ·cases h1
 rename_i g3;split at h1
 ·rename_i g4;exact absurd h1 g4
 split at h1
 ·cases h1
 rename_i g5;have g5:=Classical.not_not.1 g5;have h3:=jE.1 h1;have h2:alB x.tok x.col=true:=by simpa using h2
 unfold alB at h2;rw[Bool.and_eq_true,Bool.not_eq_true',Bool.not_eq_true',qr,qr]at h2;obtain⟨h4,h5⟩:=h2;have h6: ∀i,i<x.col.length->iH x.tok x.col i=true:=λi hi=>by simpa using h4 i hi
 have hrow: ∀s,s<x.tok.length->(x.tok.getD s []).length<=1024∧ ∀j,j<(x.tok.getD s []).length->tkE ((x.tok.getD s []).getD j default)=0:=λs hs=>by
  have:=h3 s hs
  unfold gS at this;split at this
  ·cases this
  rename_i k1;split at this
  ·cases this
  rename_i k2;refine⟨om,λj hj=> ?_⟩
  have:=qr.1 (by simpa using k2) j hj
  simpa using this
 refine⟨om,g5,λs hs=>(hrow s hs).1,λs hs=>(hrow s hs).2,λi hi=> ?_,λi hi s hs=> ?_,λi hi=> ?_,λs hs=> ?_⟩
 ·have:=h6 i hi
  unfold iH at this;rw[Bool.and_eq_true,decide_eq_true_iff]at this;omega
 ·have:=h6 i hi
  unfold iH at this;rw[Bool.and_eq_true,Bool.and_eq_true,Bool.not_eq_true',qr]at this
  have:=this.2.1 s om
  have this:enB x.tok x.col i s=true:=by simpa using this
  unfold enB at this;simpa[Bool.or_eq_true,Bool.and_eq_true] using this
 ·have:=h6 i hi
  unfold iH at this;rw[Bool.and_eq_true,Bool.and_eq_true]at this;obtain⟨s,hs,hv⟩:=qS.1 this.2.2;exact⟨s,om,by simpa using hv⟩
 ·have:=h5 s om
  simpa using this
end RC
end
section
open Go Go.Proofs AF
def jh:List Nat:= []
def wo:C:=
 (v6 [O1 1 (.box 0 92) 0,vU 2 0] ((v6 [vT 6 4 1,LD 7 6,vV 8 .lss 7 0,MV 9 8,wh 10 9 4 1,wi 11 9 10,vZ 12 9 (.bin .gtr) 11 (i6 31),PT 13 9 12] (v7 13 (wa [vU 2 2]))).seq (v6 [vT
 14 4 1,LD 15 14,vV 16 .and 15 2,vV 17 .neq 16 0,vT 18 4 1,LD 19 18,vV 20 .and 19 8,vV 21 .neq 20 0,MV 3 17,MV 4 21] ((v6 [MV 22 3,MV 23 22,MG 24 23 true 4,PF 25 23 24] (v7 25
 (wa [vU 2 8]))).seq (v6 [MC 5 (.fn (Fn.func 134) [] [])] ((v6 [MV 26 3] (v7 26 (wc [MC 5 (.fn (Fn.func 230) [] [])]))).seq ((v6 [MV 27 4] (v7 27 (wc [MC 5 (.fn (Fn.func 231) []
 [])]))).seq ((C.block 0 ((v6 [MV 29 5,vT 30 0 1,LD 31 30,O2 32 .callv 29 31,O1 33 (.un UnOp.not) 32,MV 28 33] (C.cond (.t 28) C.skip (v6 [O1 34 (.load (some 6)) 1,O1 35 (.call
 232 true) 34,MV 36 35,P1 37 36 true (.fldA 1) 1,P1 38 36 true (.load none) 37,P1 39 36 true (.call 233 true) 38,P1 40 36 true (.un UnOp.not) 39,PF 41 36 40,MV 28 41] (C.cond
 (.t 28) C.skip (wc [O1 42 (.load (some 6)) 1,O1 43 (.call 232 true) 42,O1 44 (.un UnOp.not) 43,MV 45 44,P1 46 45 true (.fldA 1) 1,P1 47 45 true (.load none) 46,P1 48 45 true
 (.fldA 0) 1,P1 49 45 true (.load none) 48,P2 50 45 true (.bin .neq) 47 49,PF 51 45 50,MV 28 51]))))).seq (C.cond (.t 28) (wa [vU 2 11]) (v6 [vT 53 2 1,vT 54 1 53,LD 55 54,vV 56
 .lss 55 0,MV 52 56] (C.cond (.t 52) (wa [vU 2 2]) (v6 [vT 58 2 1,vT 59 0 58,LD 60 59,O1 61 (.call 234 true) 60,O1 62 (.un UnOp.not) 61,MV 63 62,wh 64 63 5 1,wi 65 63 64,vW 66
 63 (.call 234 true) 65,vW 67 63 (.un UnOp.not) 66,PT 68 63 67,MV 57 68] (v7 57 (wa [vU 2 14])))))))).seq (wa [vU 2 0])))))))))
theorem jH:qN Tryz.prog 174 69 1 [RV.tmp 2] wo:=fi Tryz.f174 [1] jh []
def fq:C:=
 (v6 [MC 2 (.bool false)] ((v6 [MV 5 0,O1 6 .slen 5,vV 7 .lss 6 3,MV 8 7,vY 9 8 0,vZ 10 8 .sidx 9 (i6 0),vZ 11 8 (.bin .neq) 10 (.int .u8 91),PT 12 8 11,MV 13 12,vY 14 13 0,vY 15
 13 0,vW 16 13 .slen 15,vZ 17 13 (.bin .sub) 16 (i6 1),vX 18 13 .sidx 14 17,vZ 19 13 (.bin .neq) 18 (.int .u8 93),PT 20 13 19] (v7 20 (wa [MC 2 (.bool false)]))).seq (v6 [MV 22
 0,MV 23 0,O1 24 .slen 23,vV 25 .sub 24 1,ON 26 (.sslc true true) [.t 22,.c (i6 1),.t 25],O1 27 (.call 270 true) 26,MV 21 27,O1 28 (.ext 0) 21,O1 29 (.ext 1) 21,MV 3 28,MV 4 29]
 (wa [MV 30 4,O1 31 (.isnil .iface false) 30,MV 32 31,MG 33 32 true 3,PC 34 32 true (.bin .geq) 33 (i6 1),PF 35 32 34,MV 36 35,MG 37 36 true 3,PC 38 36 true (.bin .leq) 37 (i6
 64),PF 39 36 38,MV 40 39,MG 41 40 true 0,MG 42 40 true 3,P1 43 40 true (.call 115 true) 42,PN 44 40 true (.bin .add) [.c (.str [91]),.t 43],PC 45 40 true (.bin .add) 44 (.str
 [93]),P2 46 40 true (.bin .eql) 41 45,PF 47 40 46,MV 2 47]))))
theorem aQ:qN Tryz.prog 230 48 0 [RV.tmp 2] fq:=fi Tryz.f230 [] jh []
def Wg:C:=
 (v6 [MC 2 (.bool false)] ((v6 [MV 4 0,O1 5 .slen 4,vV 6 .neq 5 1] (v7 6 (wa [MC 2 (.bool false)]))).seq (v6 [MV 7 0,OC 8 .sidx 7 (i6 0),O1 9 (.call 185 true) 8,MV 3 9] (wa [MV
 10 3,vV 11 .eql 10 5,MV 12 11,vY 13 12 3,vZ 14 12 (.bin .eql) 13 (i6 4),PT 15 12 14,MV 2 15]))))
theorem Zc:qN Tryz.prog 231 16 0 [RV.tmp 2] Wg:=fi Tryz.f231 [] jh []
def IB:C:=
 (v6 [O1 1 (.box 0 92) 0,MC 2 (.bool false)] (wa [vT 3 4 1,LD 4 3,vV 5 .and 4 10,vV 6 .eql 5 0,MV 2 6]))
theorem Nk:qN Tryz.prog 232 7 1 [RV.tmp 2] IB:=fi Tryz.f232 [1] jh []
def IC:C:=
 (v6 [MC 2 (.bool false)] ((v6 [MV 4 0,O1 5 .slen 4,vU 6 0] (C.block 0 (v6 [BI 7 .lss 6 5] ((v8 7 0).seq ((C.block 1 (v6 [MV 8 6,MV 3 8] (v6 [MV 9 0,MV 10 3,O2 11 .sidx 9 10,O1
 12 (.call 271 true) 11,O1 13 (.un UnOp.not) 12] (v7 13 (wa [MC 2 (.bool false)]))))).seq (wc [vV 14 .add 6 1,MV 6 14])))).loop)).seq (wa [MV 15 0,BC 16 .neq 15 (.str []),MV 17
 16,MG 18 17 true 0,P1 19 17 true .slen 18,PC 20 17 true (.bin .leq) 19 (i6 64),PF 21 17 20,MV 2 21])))
theorem Nl:qN Tryz.prog 233 22 0 [RV.tmp 2] IC:=fi Tryz.f233 [] jh []
def C6:C:=
 (v6 [MC 2 (.bool false)] (wa [MV 3 0,BC 4 .eql 3 (.str []),MV 5 4,vY 6 5 0,vW 7 5 (.call 169 true) 6,PT 8 5 7,MV 2 8]))
theorem Bm:qN Tryz.prog 234 9 0 [RV.tmp 2] C6:=fi Tryz.f234 [] jh []
def Wh:C:=
 (v6 [MC 2 (.bool false)] (v6 [MV 4 0,O1 5 (.call 185 true) 4,MV 3 5] (wa [MV 6 0,O1 7 (.call 301 true) 6,MV 8 7,vY 9 8 3,vZ 10 8 (.bin .eql) 9 (i6 2),PT 11 8 10,MV 12 11,vY 13
 12 3,vZ 14 12 (.bin .eql) 13 (i6 4),PT 15 12 14,MV 2 15])))
theorem Zd:qN Tryz.prog 271 16 0 [RV.tmp 2] Wh:=fi Tryz.f271 [] jh []
def Di:C:=
 (v6 [MC 2 (.bool false)] (v6 [MV 4 0,O1 5 (.call 185 true) 4,MV 3 5] (wa [MV 6 3,vV 7 .eql 6 1,MV 8 7,vY 9 8 3,vZ 10 8 (.bin .eql) 9 (i6 3),PT 11 8 10,MV 2 11])))
theorem By:qN Tryz.prog 301 12 0 [RV.tmp 2] Di:=fi Tryz.f301 [] jh []
def qbT:C:=
 (v6 [O1 1 (.box 0 26) 0,vU 2 0] ((v6 [vT 4 0 1,LD 5 4,vT 6 1 1,LD 7 6,vT 8 2 1,LD 9 8,ON 10 (.call 125 true) [.t 5,.t 7,.t 9],MV 3 10] (v6 [MV 11 3,vV 12 .neq 11 0] (v7 12 (wa
 [MV 13 3,MV 2 13])))).seq ((v6 [vT 14 2 1,LD 15 14,vT 16 3 1,LD 17 16,O2 18 (.call 126 true) 15 17,vV 19 .neq 18 0] (v7 19 (wa [vU 2 19]))).seq (wa [vU 2 0]))))
theorem N7:qN Tryz.prog 67 20 1 [RV.tmp 2] qbT:=fi Tryz.f67 [1] jh []
def u0:C:=
 (v6 [vU 6 0] ((C.block 0 (v6 [MV 12 0,O1 13 (.call 169 true) 12,O1 14 (.un UnOp.not) 13,MV 11 14] (C.cond (.t 11) (wa [vU 6 14]) (v6 [MV 16 1,O1 17 .len 16,vV 18 .eql 17 0,MV 15
 18] (C.cond (.t 15) (wa [vU 6 5]) (v6 [MV 20 1,O1 21 .len 20,vV 22 .gtr 21 32,MV 19 22] (v7 19 (wa [vU 6 4])))))))).seq ((v6 [MV 23 1,O1 24 .len 23,vU 25 0] (C.block 1 (v6 [BI
 26 .lss 25 24] ((v8 26 1).seq ((C.block 2 (v6 [MV 27 25,O2 28 (.idxA 1) 23 25,LD 29 28,MV 7 27,MV 8 29] ((v6 [MV 30 8,O1 31 (.call 170 true) 30,O1 32 (.un UnOp.not) 31] (v7 32
 (wa [vU 6 14]))).seq (v6 [MV 33 1,MV 34 7,O2 35 (.slc 1 false true) 33 34,MV 36 8,O2 37 (.call 171 true) 35 36] (v7 37 (wa [vU 6 7])))))).seq (wc [vV 38 .add 25 1,MV 25
 38])))).loop)).seq ((v6 [MV 39 2,O1 40 .len 39,MV 41 1,O1 42 .len 41,BI 43 .neq 40 42] (v7 43 (wa [vU 6 9]))).seq ((v6 [MV 44 2,O1 45 .len 44,vU 46 0] (C.block 3 (v6 [BI 47
 .lss 46 45] ((v8 47 3).seq ((C.block 4 (v6 [O2 48 (.idxA 1) 44 46,LD 49 48,MV 10 49] ((v6 [MV 50 10,O1 51 .len 50,vV 52 .gtr 51 1024] (v7 52 (wa [vU 6 4]))).seq (v6 [MV 53
 10,OC 54 (.call 172 true) 53 (.fn (Fn.func 173) [] [])] (v7 54 (wa [vU 6 1])))))).seq (wc [vV 55 .add 46 1,MV 46 55])))).loop)).seq (wa [vU 6 0]))))))
theorem oL:qN Tryz.prog 125 56 0 [RV.tmp 6] u0:=fi Tryz.f125 [] jh []
def Ig:C:=
 (v6 [O1 1 (.box 0 92) 0,MC 2 (.bool false)] (wa [O1 3 (.load (some 6)) 1,O1 4 (.call 174 true) 3,vV 5 .neq 4 0,MV 2 5]))
theorem MQ:qN Tryz.prog 173 6 1 [RV.tmp 2] Ig:=fi Tryz.f173 [1] jh []
def u9:C:=
 (v6 [MC 2 (.bool false)] (v6 [MV 6 0,OC 7 (.call 228 true) 6 (.str [42]),MV 5 7,O1 8 (.ext 0) 5,O1 9 (.ext 1) 5,MV 3 8,MV 4 9] (wa [MV 10 3,O1 11 (.call 169 true) 10,MV 12 11,MG
 13 12 true 4,P1 14 12 true (.un UnOp.not) 13,MG 15 12 true 14,vY 16 15 0,vW 17 15 .slen 16,vZ 18 15 (.bin .leq) 17 (i6 16),QT 19 12 true 15 18,PF 20 12 19,MV 2 20])))
theorem oP:qN Tryz.prog 170 21 0 [RV.tmp 2] u9:=fi Tryz.f170 [] jh []
def Ih:C:=
 (v6 [vU 2 0] ((C.block 0 (v6 [MV 4 0,O1 5 .len 4,vV 6 .eql 5 0,MV 3 6] (C.cond (.t 3) (wa [vU 2 5]) (v6 [MV 8 0,O1 9 .len 8,vV 10 .gtr 9 32,MV 11 10,vY 12 11 0,vZ 13 11 (.call
 235 true) 12 (.fn (Fn.func 236) [] []),PT 14 11 13,MV 7 14] (v7 7 (wa [vU 2 4])))))).seq (wa [vU 2 0])))
theorem MS:qN Tryz.prog 175 15 0 [RV.tmp 2] Ih:=fi Tryz.f175 [] jh []
def ID:C:=
 (v6 [MC 2 (.bool false)] (wa [MV 3 0,O1 4 .len 3,vV 5 .gtr 4 1024,MV 2 5]))
theorem Np:qN Tryz.prog 236 6 0 [RV.tmp 2] ID:=fi Tryz.f236 [] jh []
def HS:C:=
 (v6 [vU 4 0] ((v6 [MV 6 0,O1 7 (.call 175 true) 6,MV 5 7] (v6 [MV 8 5,vV 9 .neq 8 0] (v7 9 (wa [MV 10 5,MV 4 10])))).seq ((v6 [MV 11 0,MV 12 1,O2 13 (.call 176 true) 11 12,O1 14
 (.un UnOp.not) 13] (v7 14 (wa [vU 4 19]))).seq (wa [vU 4 0]))))
theorem L8:qN Tryz.prog 126 15 0 [RV.tmp 4] HS:=fi Tryz.f126 [] jh []
def Ii:C:=
 (v6 [MC 4 (.bool false)] (v6 [MV 12 0,O1 13 .len 12,⟨some 14,none,.mkslc 0 1 3 [i6 0] 8,[.t 13,.t 13]⟩,MV 5 14] ((v6 [MV 15 1,O1 16 .len 15,vU 17 0] (C.block 0 (v6 [BI 18 .lss
 17 16] ((v8 18 0).seq ((C.block 1 (v6 [O2 19 (.idxA 1) 15 17,LD 20 19,MV 7 20] ((v6 [MV 21 7,O1 22 .len 21,MV 23 0,O1 24 .len 23,BI 25 .neq 22 24] (v7 25 (wa [MC 4 (.bool
 false)]))).seq (v6 [MC 8 (.bool false)] ((v6 [MV 26 7,O1 27 .len 26,vU 28 0] (C.block 2 (v6 [BI 29 .lss 28 27] ((v8 29 2).seq ((C.block 3 (v6 [MV 30 28,O2 31 (.idxA 1) 26 28,LD
 32 31,MV 9 30,MV 10 32] ((v6 [MV 33 10,BC 34 .eql 33 (i6 (-1))] (v7 34 (C.exit 3))).seq ((v6 [MV 35 10,MV 36 5,MV 37 9,O2 38 (.idxA 1) 36 37,LD 39 38,BI 40 .neq 35 39,MV 41
 40,vY 42 41 10,vY 43 41 0,vY 44 41 9,vX 45 41 (.idxA 1) 43 44,wi 46 41 45,vW 47 41 .len 46,vX 48 41 (.bin .geq) 42 47,PT 49 41 48] (v7 49 (wa [MC 4 (.bool false)]))).seq (v6
 [MV 50 5,MV 51 9,O2 52 (.idxA 1) 50 51,LD 53 52,vV 54 .add 53 1,O2 55 (.idxA 1) 50 51,ST 1 55 54] (wc [MC 8 (.bool true)])))))).seq (wc [vV 56 .add 28 1,MV 28
 56])))).loop)).seq (v6 [MV 57 8,O1 58 (.un UnOp.not) 57] (v7 58 (wa [MC 4 (.bool false)])))))))).seq (wc [vV 59 .add 17 1,MV 17 59])))).loop)).seq ((v6 [MV 60 0,O1 61 .len
 60,vU 62 0] (C.block 4 (v6 [BI 63 .lss 62 61] ((v8 63 4).seq ((C.block 5 (v6 [MV 64 62,MV 11 64] (v6 [MV 65 5,MV 66 11,O2 67 (.idxA 1) 65 66,LD 68 67,MV 69 0,MV 70 11,O2 71
 (.idxA 1) 69 70,LD 72 71,O1 73 .len 72,BI 74 .neq 68 73] (v7 74 (wa [MC 4 (.bool false)]))))).seq (wc [vV 75 .add 62 1,MV 62 75])))).loop)).seq (wa [MC 4 (.bool true)])))))
theorem MU:qN Tryz.prog 176 76 1 [RV.tmp 4] Ii:=fi Tryz.f176 [14] jh []
def qbQ:C:=
 (v6 [O1 1 (.box 0 26) 0,vU 2 0] ((v6 [vT 10 0 1,LD 11 10,vT 12 1 1,LD 13 12,vT 14 2 1,LD 15 14,ON 16 (.call 87 true) [.t 11,.t 13,.t 15],MV 3 16] (v6 [MV 17 3,vV 18 .neq 17 0]
 (v7 18 (wa [MV 19 3,MV 2 19])))).seq (v6 [vT 20 1 1,LD 21 20,O1 22 .len 21,⟨some 23,none,.mkslc 1 1 3 [i6 0] 8,[.t 22,.t 22]⟩,MV 4 23] ((v6 [vU 5 0] (C.block 0 ((v6 [MV 24 5,vT
 25 3 1,LD 26 25,O1 27 .len 26,BI 28 .lss 24 27] (v8 28 0)).seq ((C.block 1 (v6 [vT 31 3 1,LD 32 31,MV 33 5,O2 34 (.idxA 1) 32 33,LD 35 34,MV 6 35] ((v6 [MV 36 6,O1 37 .len
 36,MV 38 4,O1 39 .len 38,BI 40 .neq 37 39] (v7 40 (wa [vU 2 19]))).seq (v6 [MC 7 (.bool false)] ((v6 [vU 8 0] (C.block 2 ((wg 41 8 6 2).seq ((C.block 3 ((v6 [MV 47 6,MV 48 8,O2
 49 (.idxA 1) 47 48,LD 50 49,BC 51 .eql 50 (i6 (-1))] (v7 51 (C.exit 3))).seq ((v6 [MV 52 6,MV 53 8,O2 54 (.idxA 1) 52 53,LD 55 54,MV 56 4,MV 57 8,O2 58 (.idxA 1) 56 57,LD 59
 58,BI 60 .neq 55 59,MV 61 60,vY 62 61 6,vY 63 61 8,vX 64 61 (.idxA 1) 62 63,wi 65 61 64,wh 66 61 2 1,wi 67 61 66,vY 68 61 8,vX 69 61 (.idxA 1) 67 68,wi 70 61 69,vW 71 61 .len
 70,vX 72 61 (.bin .geq) 65 71,PT 73 61 72] (v7 73 (wa [vU 2 19]))).seq (v6 [MV 74 4,MV 75 8,O2 76 (.idxA 1) 74 75,LD 77 76,vV 78 .add 77 1,O2 79 (.idxA 1) 74 75,ST 1 79 78] (wc
 [MC 7 (.bool true)]))))).seq (we 45 8))).loop)).seq (v6 [MV 80 7,O1 81 (.un UnOp.not) 80] (v7 81 (wa [vU 2 19])))))))).seq (we 29 5))).loop)).seq ((v6 [vU 9 0] (C.block 4 ((wg
 82 9 4 4).seq ((C.block 5 (v6 [MV 88 4,MV 89 9,O2 90 (.idxA 1) 88 89,LD 91 90,vT 92 2 1,LD 93 92,MV 94 9,O2 95 (.idxA 1) 93 94,LD 96 95,O1 97 .len 96,BI 98 .neq 91 97] (v7 98
 (wa [vU 2 19])))).seq (we 86 9))).loop)).seq (wa [vU 2 0]))))))
theorem NP:qN Tryz.prog 29 99 2 [RV.tmp 2] qbQ:=fi Tryz.f29 [1,23] jh []
def Lj:C:=
 (v6 [vU 6 0] ((v6 [MV 11 0,O1 12 (.call 141 true) 11,O1 13 (.un UnOp.not) 12] (v7 13 (wa [vU 6 14]))).seq ((v6 [MV 14 1,O1 15 .len 14,vV 16 .eql 15 0] (v7 16 (wa [vU 6 5]))).seq
 ((v6 [MV 17 1,O1 18 .len 17,vV 19 .gtr 18 32] (v7 19 (wa [vU 6 4]))).seq ((v6 [vU 7 0] (C.block 0 ((wg 20 7 1 0).seq ((C.block 1 ((v6 [MV 26 1,MV 27 7,O2 28 (.idxA 1) 26 27,LD
 29 28,O1 30 (.call 142 true) 29,O1 31 (.un UnOp.not) 30] (v7 31 (wa [vU 6 14]))).seq (v6 [vU 8 0] (C.block 2 ((v6 [MV 32 8,MV 33 7,BI 34 .lss 32 33] (v8 34 2)).seq ((C.block 3
 (v6 [MV 37 1,MV 38 8,O2 39 (.idxA 1) 37 38,LD 40 39,MV 41 1,MV 42 7,O2 43 (.idxA 1) 41 42,LD 44 43,BI 45 .eql 40 44] (v7 45 (wa [vU 6 7])))).seq (we 35 8))).loop)))).seq (we 24
 7))).loop)).seq ((v6 [MV 46 2,O1 47 .len 46,MV 48 1,O1 49 .len 48,BI 50 .neq 47 49] (v7 50 (wa [vU 6 9]))).seq ((v6 [vU 9 0] (C.block 4 ((wg 51 9 2 4).seq ((C.block 5 ((v6 [MV
 57 2,MV 58 9,O2 59 (.idxA 1) 57 58,LD 60 59,O1 61 .len 60,vV 62 .gtr 61 1024] (v7 62 (wa [vU 6 4]))).seq (v6 [vU 10 0] (C.block 6 ((v6 [MV 63 10,MV 64 2,MV 65 9,O2 66 (.idxA 1)
 64 65,LD 67 66,O1 68 .len 67,BI 69 .lss 63 68] (v8 69 6)).seq ((C.block 7 (v6 [MV 72 2,MV 73 9,O2 74 (.idxA 1) 72 73,LD 75 74,MV 76 10,O2 77 (.idxA 6) 75 76,O1 78 (.load (some
 6)) 77,O1 79 (.call 143 true) 78,vV 80 .neq 79 0] (v7 80 (wa [vU 6 1])))).seq (we 70 10))).loop)))).seq (we 55 9))).loop)).seq (wa [vU 6 0]))))))))
theorem Xj:qN Tryz.prog 87 81 0 [RV.tmp 6] Lj:=fi Tryz.f87 [] jh []
def u6:C:=
 (v6 [MC 2 (.bool false)] ((v6 [MV 4 0,O1 5 .slen 4,MV 3 5] (v6 [MV 6 3,vV 7 .gtr 6 0,MV 8 7,MG 9 8 true 0,MG 10 8 true 3,PC 11 8 true (.bin .sub) 10 (i6 1),P2 12 8 true .sidx 9
 11,PC 13 8 true (.bin .eql) 12 (.int .u8 42),PF 14 8 13] (v7 14 (wa [MV 15 3,vV 16 .leq 15 16,MV 17 16,MG 18 17 true 0,MG 19 17 true 3,PC 20 17 true (.bin .sub) 19 (i6 1),P2 21
 17 true (.sslc false true) 18 20,P1 22 17 true (.call 141 true) 21,PF 23 17 22,MV 2 23])))).seq (wa [MV 24 0,O1 25 (.call 141 true) 24,MV 2 25])))
theorem oN:qN Tryz.prog 142 26 0 [RV.tmp 2] u6:=fi Tryz.f142 [] jh []
end
section
open Go Go.Proofs AF HY LN
namespace RC
theorem qdf(s:Str)(h:w6)(hs:s.length<=1000000000):ACalls Tryz.prog 234 [.str s] h (.bool (ZL s)) h:=by
 have c1:=λh=>t44 s h hs
 unfold ZL
 by_cases g:s= []
 ·subst g;rw[dqt rfl,Bool.true_or];refine acO Bm ?_;simp (disch:=omega) only[C6,go_sem]
  repeat' first|(refine qj ( .bool false) ?_;simp (disch:=omega) only[go_sem])|exact wm|fail
 ·have k1:(s= [])=False:=eqf g;rw[dqf g,Bool.false_or];refine acO Bm ?_;simp (disch:=omega) only[C6,k1,go_sem]
  repeat' first|(refine cG (λe=>c1 _) flk ?_;simp (disch:=omega) only[go_sem])|exact wm|fail
theorem qfM(s:Str)(h:w6)(hs:s.length<=1000000000):ACalls Tryz.prog 231 [.str s] h (.bool (Hh s)) h:=by
 unfold Hh
 by_cases g:s.length=1
 ·have k1:((s.length:Int)=1)=True:=xv;have k2:((0:Int)<s.length)=True:=xv;have e:(s[0]?).getD 0=ch s 0:=by simp[ch,gdqA]
  have c5:=λh=>bz (ch s 0) h
  rw[dqt g,Bool.true_and];obtain⟨k,hk⟩:=wD (kind (ch s 0))
  rw[<-hk]at c5 ⊢
  by_cases g1:k=5
  ·have q1:(k=5)=True:=eqt g1;rw[dqt g1,Bool.true_or];refine acO Zc ?_;simp (disch:=omega) only[Wg,k1,go_sem]
   repeat' first|(refine cA (c5 _) flk ?_;simp (disch:=omega) only[e,q1,go_sem])|exact wm|with_reducible apply aiA|exact clz|fail
  ·have q1:(k=5)=False:=eqf g1;rw[dqf g1,Bool.false_or];refine acO Zc ?_;simp (disch:=omega) only[Wg,k1,go_sem]
   repeat' first|(refine cA (c5 _) flk ?_;simp (disch:=omega) only[e,q1,go_sem])|exact wm|with_reducible apply aiA|exact clz|fail
 ·have k1:((s.length:Int)=1)=False:=xD;rw[dqf g,Bool.false_and];refine acO Zc ?_;simp (disch:=omega) only[Wg,k1,go_sem]
  repeat' first|exact wm|fail
theorem qbs(c:UInt8)(h:w6):ACalls Tryz.prog 301 [.int .u8 (c.toNat:Int)] h (.bool (decide (kind c=1)||decide (kind c=3))) h:=by
 have c5:=λh=>bz c h
 obtain⟨k,hk⟩:=wD (kind c)
 rw[<-hk]at c5 ⊢
 by_cases g1:k=1
 ·have q1:(k=1)=True:=eqt g1;rw[dqt g1,Bool.true_or];refine acO By ?_;simp (disch:=omega) only[Di,go_sem]
  repeat' first|(refine cA (c5 _) flk ?_;simp (disch:=omega) only[q1,go_sem])|exact wm|fail
 ·have q1:(k=1)=False:=eqf g1;rw[dqf g1,Bool.false_or];refine acO By ?_;simp (disch:=omega) only[Di,go_sem]
  repeat' first|(refine cA (c5 _) flk ?_;simp (disch:=omega) only[q1,go_sem])|exact wm|fail
theorem qby(c:UInt8)(h:w6):ACalls Tryz.prog 271 [.int .u8 (c.toNat:Int)] h (.bool (xO c)) h:=by
 have c5:=λh=>bz c h
 have c6:=λh=>qbs c h
 unfold xO;rw[<-Bool.or_assoc];obtain⟨k,hk⟩:=wD (kind c)
 rw[<-hk]at c5 c6 ⊢;obtain⟨b,hb⟩:=wD ((decide (k=1)||decide (k=3)))
 rw[<-hb]at c6 ⊢;cases b with
 |true=>
  rw[Bool.true_or];refine acO Zd ?_;simp (disch:=omega) only[Wh,go_sem]
  repeat' first|((first|refine cA (c5 _) ?_ ?_|refine cA (c6 _) ?_ ?_);exact flk;simp (disch:=omega) only[go_sem])|exact wm|fail
 |false=>
  rw[Bool.false_or]
  by_cases g1:k=2
  ·have q1:(k=2)=True:=eqt g1;rw[dqt g1,Bool.true_or];refine acO Zd ?_;simp (disch:=omega) only[Wh,go_sem]
   repeat' first|((first|refine cA (c5 _) ?_ ?_|refine cA (c6 _) ?_ ?_);exact flk;simp (disch:=omega) only[q1,go_sem])|exact wm|fail
  ·have q1:(k=2)=False:=eqf g1;rw[dqf g1,Bool.false_or];refine acO Zd ?_;simp (disch:=omega) only[Wh,go_sem]
   repeat' first|((first|refine cA (c5 _) ?_ ?_|refine cA (c6 _) ?_ ?_);exact flk;simp (disch:=omega) only[q1,go_sem])|exact wm|fail
theorem qdg(s:Str)(h:w6)(hs:s.length<=1000000000):ACalls Tryz.prog 233 [.str s] h (.bool (Hi s)) h:=by
 obtain⟨R,hR⟩:=wD (Hi s)
 rw[<-hR];unfold Hi at hR;refine acO Nl ?_;simp (disch:=omega) only[IC,go_sem];refine qp (T:=λi:Nat=>zw 22 [(0,.str s),(5,.int .i64 s.length),(6,.int .i64 i)]) (H:=λ_=>h) (inv:=λi=>i<=s.length∧ ∀j,j<i->xO (ch s j)=true) (m:=λi=>s.length-i) 0 ⟨nzl _,λj hj=>by omega⟩ (Wk.temps ?_) ?_
 ·(simp only[go_sem,qg,qc,qa,qf];try exact wr)
 rintro i ⟨i1,i2⟩ K hK
 by_cases hi:i<s.length
 ·have k1:((i:Int)<s.length)=True:=xv;have e:(s[i]?).getD 0=ch s i:=by simp[ch,gdqA]
  have c1:=λh=>qby (ch s i) h
  cases g:xO (ch s i)with
  |false=>
   rw[g]at c1;have hV:R=false:=by
    have:((List.range s.length).all λi=>xO (ch s i))=false:=by
     rw[List.all_eq_false];exact⟨i,List.mem_range.2 hi,by simp[g]⟩
    rw[hR,this,Bool.and_false,Bool.and_false]
   rw[hV];simp (disch:=omega) only[k1,e,go_sem]
   repeat' first|(refine cA (c1 _) flk ?_;simp (disch:=omega) only[go_sem])|exact wm|with_reducible apply aiA|exact clz|fail
  |true=>
   rw[g]at c1;simp (disch:=omega) only[k1,e,go_sem]
   repeat' first|(refine cA (c1 _) flk ?_;simp (disch:=omega) only[go_sem])|with_reducible apply aiA|exact clz|fail
   refine hK _ _ (i+1) ⟨hi,λj hj=> ?_⟩ om (Wk.temps ?_)
   ·by_cases e':j=i
    ·subst e';exact g
    ·exact i2 j om
   ·(simp only[go_sem,qg,qc,qa,qf];try exact wr)
 ·have k1:((i:Int)<s.length)=False:=xD;have hA:((List.range s.length).all λi=>xO (ch s i))=true:=by
   rw[List.all_eq_true];intro j hj;exact i2 j (by have:=List.mem_range.1 hj;omega)
  rw[hA,Bool.and_true]at hR
  by_cases g:s= []
  ·have q1:(s= [])=True:=eqt g;rw[hR,dqf (λh=>h g),Bool.false_and];simp (disch:=omega) only[k1,q1,go_sem]
   repeat' first|exact wm|fail
  ·have q1:(s= [])=False:=eqf g;have q2:decide ((s.length:Int)<=64)=decide (s.length<=64):=decide_eq_decide.2 om;rw[hR,dqt (show s≠ []from g),Bool.true_and];simp (disch:=omega) only[k1,q1,q2,go_sem]
   repeat' first|exact wm|fail
theorem EH{k:Nat}:1<=(Lib.itoa (k:Int)).length:=by
 rw[Lib.itoa_nonneg]
 by_cases g:k<10
 ·rw[Lib.decDigits,dif_pos g];simp
 ·rw[Lib.decDigits,dif_neg g];simp
theorem Oo{s:Str}(h:iU s=true):3<=s.length∧((s[0]?).getD 0).toNat=91∧((s[s.length-1]?).getD 0).toNat=93∧ ∃v:Int,Lib.atoiAll ((s.drop 1).take (s.length-1-1))= .ok v∧1<=v∧v<=64∧s=91::(Lib.itoa v++ [93]):=by
 unfold iU at h;rw[List.any_eq_true]at h;obtain⟨k,hk,e⟩:=h;have hk':k<64:=by simpa using hk
 have e:=of_decide_eq_true e;have hl:=EH (k:=k+1);obtain⟨t,ht⟩:=wD (Lib.itoa ((k+1:Nat):Int))
 rw[<-ht]at e hl;have ha:Lib.atoiAll t= .ok ((k+1:Nat):Int):=by rw[ht];exact t8 om om
 have e1:s.length=t.length+2:=by rw[e];simp
 refine⟨om,by rw[e];rfl,?_,((k+1:Nat):Int),?_,om,om,by rw[<-ht];exact e⟩
 ·rw[e1,e,show t.length+2-1=t.length+1 by omega,List.getElem?_cons_succ,List.getElem?_append_right (nlr _),Nat.sub_self];rfl
 ·rw[<-ha,e1,e];congr 1;simp
theorem Oq{s:Str}{v:Int}(h1:1<=v)(h2:v<=64)(e:s=91::(Lib.itoa v++ [93])):iU s=true:=by
 unfold iU;rw[List.any_eq_true];refine⟨v.toNat-1,by simp;omega,dqt ?_⟩;rw[show ((v.toNat-1+1:Nat):Int)=v by omega];exact e
theorem qfu(s:Str)(h:w6)(hs:s.length<=1000000000)(hp:kt SG h):ACalls Tryz.prog 230 [.str s] h (.bool (iU s)) h:=by
 have hF:= @Oo s;have hM:= @Oq s;obtain⟨R,hR⟩:=wD (iU s)
 rw[<-hR]at hF hM ⊢;have hV: ¬(R=true)->R=false:=by cases R<;>simp
 by_cases g0:s.length<3
 ·have k0:((s.length:Int)<3)=True:=xv;rw[hV (λc=>by have:=(hF c).1;omega)];refine acO aQ ?_;simp (disch:=omega) only[fq,k0,go_sem]
  repeat' first|exact wm|fail
 have k0:((s.length:Int)<3)=False:=xD;have k1:((0:Int)<s.length)=True:=xv;have k2:((s.length:Int)-1).toNat=s.length-1:=by omega
 have k3:(0<=(s.length:Int)-1)=True:=xv;have k4:((s.length:Int)-1<=s.length)=True:=xv;have k5:((s.length:Int)-1<s.length)=True:=xv;have k6:((1:Int)<=(s.length:Int)-1)=True:=xv;obtain⟨m,hm⟩:=wD ((s.drop 1).take (s.length-1-1))
 have hml:m.length<=s.length:=by rw[hm];simp;omega
 have em:=hm.symm;rw[em]at hF;obtain⟨a,ha⟩:=wD ((s[0]?).getD 0)
 obtain⟨b,hb⟩:=wD ((s[s.length-1]?).getD 0)
 have ea:=ha.symm;have eb:=hb.symm;rw[ea,eb]at hF
 by_cases g1:a.toNat=91
 case neg=>
  have q1:((a.toNat:Int)=91)=False:=xD;rw[hV (λc=>g1 (hF c).2.1)];refine acO aQ ?_;simp (disch:=omega) only[fq,k0,k1,k2,k3,k4,k5,k6,em,ea,eb,q1,Int.toNat_zero,Int.toNat_one,go_sem]
  repeat' first|exact wm|with_reducible apply aiA|exact clz|fail
 have q1:((a.toNat:Int)=91)=True:=xv
 by_cases g2:b.toNat=93
 case neg=>
  have q2:((b.toNat:Int)=93)=False:=xD;rw[hV (λc=>g2 (hF c).2.2.1)];refine acO aQ ?_;simp (disch:=omega) only[fq,k0,k1,k2,k3,k4,k5,k6,em,ea,eb,q1,q2,Int.toNat_zero,Int.toNat_one,go_sem]
  repeat' first|exact wm|with_reducible apply aiA|exact clz|fail
 have q2:((b.toNat:Int)=93)=True:=xv;have c180:=t50 m h (SG.err hp) om;unfold CL at c180;cases hA:Lib.atoiAll m
 case ok v=>
  rw[hA]at c180 hF;simp only at c180;obtain⟨r1,r2⟩:=V0 hA;have c181:=t48 v h (SG.pow hp) r1 r2;obtain⟨t,ht⟩:=wD (Lib.itoa v)
  rw[<-ht]at c181
  by_cases g3:1<=v
  case neg=>
   have q3:(1<=v)=False:=eqf g3;rw[hV (λc=>by obtain⟨_,_,_,w,e,w1,_⟩:=hF c;cases e;exact g3 w1)];refine acO aQ ?_;simp (disch:=omega) only[fq,k0,k1,k2,k3,k4,k5,k6,em,ea,eb,q1,q2,Int.toNat_zero,Int.toNat_one,go_sem]
   repeat' first|(refine qj ( .str []) ?_;simp (disch:=omega) only[go_sem])|(refine cA (c180) flk ?_;simp (disch:=omega) only[q3,go_sem])|exact wm|(with_reducible first|intro _|apply aiA)|exact clz|fail
  have q3:(1<=v)=True:=eqt g3
  by_cases g4:v<=64
  case neg=>
   have q4:(v<=64)=False:=eqf g4;rw[hV (λc=>by obtain⟨_,_,_,w,e,_,w2,_⟩:=hF c;cases e;exact g4 w2)];refine acO aQ ?_;simp (disch:=omega) only[fq,k0,k1,k2,k3,k4,k5,k6,em,ea,eb,q1,q2,Int.toNat_zero,Int.toNat_one,go_sem]
   repeat' first|(refine qj ( .str []) ?_;simp (disch:=omega) only[go_sem])|(refine cA (c180) flk ?_;simp (disch:=omega) only[q3,q4,go_sem])|exact wm|with_reducible apply aiA|exact clz|fail
  have q4:(v<=64)=True:=eqt g4
  by_cases g5:s=91::(t++ [93])
  ·have q5:(s=91::(t++ [93]))=True:=eqt g5;have htl:t.length<=9:=by
    obtain⟨n,rfl⟩: ∃n:Nat,v=n:=⟨v.toNat,om⟩
    rw[ht];exact mT om
   rw[hM g3 g4 (by rw[<-ht];exact g5)];refine acO aQ ?_;simp (disch:=omega) only[fq,k0,k1,k2,k3,k4,k5,k6,em,ea,eb,q1,q2,Int.toNat_zero,Int.toNat_one,go_sem]
   repeat' first|((first|refine cA (c180) ?_ ?_|refine cG (λe=>c181) ?_ ?_);exact flk;simp (disch:=omega) only[q3,q4,q5,go_sem])|exact wm|with_reducible apply aiA|exact clz|fail
  ·have q5:(s=91::(t++ [93]))=False:=eqf g5;have htl:t.length<=9:=by
    obtain⟨n,rfl⟩: ∃n:Nat,v=n:=⟨v.toNat,om⟩
    rw[ht];exact mT om
   rw[hV (λc=>by obtain⟨_,_,_,w,e,_,_,w3⟩:=hF c;cases e;exact g5 (by rw[ht];exact w3))];refine acO aQ ?_;simp (disch:=omega) only[fq,k0,k1,k2,k3,k4,k5,k6,em,ea,eb,q1,q2,Int.toNat_zero,Int.toNat_one,go_sem]
   repeat' first|((first|refine cA (c180) ?_ ?_|refine cG (λe=>c181) ?_ ?_);exact flk;simp (disch:=omega) only[q3,q4,q5,go_sem])|exact wm|with_reducible apply aiA|exact clz|fail
 all_goals
  rw[hA]at c180 hF;simp only at c180;rw[hV (λc=>by obtain⟨_,_,_,w,e,_⟩:=hF c;cases e)];refine acO aQ ?_;simp (disch:=omega) only[fq,k0,k1,k2,k3,k4,k5,k6,em,ea,eb,q1,q2,Int.toNat_zero,Int.toNat_one,go_sem]
  repeat' first|(refine qj ( .str []) ?_;simp (disch:=omega) only[go_sem])|(refine cA (c180) flk ?_;simp (disch:=omega) only[go_sem])|exact wm|(with_reducible first|intro _|apply aiA)|exact clz|fail
theorem qbF: ∀f:Nat,f<32->VK .i64 (f:Int) 2=if f.testBit 1 then 2 else 0:=by decide+kernel
theorem qbH: ∀f:Nat,f<32->VK .i64 (f:Int) 8=if f.testBit 3 then 8 else 0:=by decide+kernel
theorem Hy: ∀f:Nat,f<32->VK .i64 (f:Int) 10=(if f.testBit 1 then 2 else 0)+if f.testBit 3 then 8 else 0:=by decide+kernel
theorem qeH(t:Tk)(f:Nat)(h:w6)(hf:t.flags=f)(hf2:f<32):ACalls Tryz.prog 232 [.agg (tkC t)] h (.bool (!rR t.flags&& !mkB t.flags)) h:=by
 have e1:=Hy f hf2;have eg:rR t.flags=f.testBit 1:=by unfold rR;rw[hf,itn]
 have ek:mkB t.flags=f.testBit 3:=by unfold mkB;rw[hf,itn]
 rw[eg,ek];cases g1:f.testBit 1<;>cases g2:f.testBit 3<;>rw[g1,g2]at e1<;>simp only[Bool.false_eq_true,if_false,if_true,Int.add_zero,Int.zero_add]at e1
 all_goals
  refine acO Nk ?_;simp (disch:=omega) only[IB,tkC,hf,e1,go_sem]
  repeat' first|exact wj|fail
structure AP (t:Tk):Prop where
 tx:t.text.length<=1000000000
 nm:t.norm.length<=1000000000
 pg:t.page.length<=1000000000
 na:t.name.length<=1000000000
theorem tkP(t:Tk)(h:w6)(hz:AP t)(hp:kt SG h):ACalls Tryz.prog 174 [.agg (tkC t)] h (.int .i64 (tkE t)) h:=by
 obtain⟨R,hR⟩:=wD (tkE t)
 rw[<-hR];unfold tkE at hR
 by_cases g1:t.flags<0
 ·have k1:(t.flags<0)=True:=eqt g1;rw[ipo (.inl g1)]at hR;rw[hR];refine acO jH ?_;simp (disch:=omega) only[wo,tkC,go_sem]
  repeat' first|(apply qb;exact rvk;simp only[go_sem];first|exact qi|apply qe)|(with_reducible first|intro _|apply aiA)|exact clz|fail
 have k1:(t.flags<0)=False:=eqf g1
 by_cases g2:31<t.flags
 ·have k2:((31:Int)<t.flags)=True:=eqt g2;rw[ipo (.inr g2)]at hR;rw[hR];refine acO jH ?_;simp (disch:=omega) only[wo,tkC,go_sem]
  repeat' first|(apply qb;exact rvk;simp only[go_sem];first|exact qi|apply qe)|(with_reducible first|intro _|apply aiA)|exact clz|fail
 have k2:((31:Int)<t.flags)=False:=eqf g2;rw[ine om]at hR;obtain⟨f,hf⟩: ∃f:Nat,t.flags=(f:Int):=⟨t.flags.toNat,om⟩
 have hf2:f<32:=by omega
 have e2:=qbF f hf2;have e8:=qbH f hf2;have eg:rR t.flags=f.testBit 1:=by unfold rR;rw[hf,itn]
 have ek:mkB t.flags=f.testBit 3:=by unfold mkB;rw[hf,itn]
 have cI:=λh=>qeH t f h hf hf2
 have cP:=λl=>qdf t.page (h++l) hz.pg
 have cM:=λl=>qdf t.name (h++l) hz.na
 have hG:=λl=>qfu t.text (h++l) hz.tx (hp.app l)
 have cK:=λl=>qfM t.text (h++l) hz.tx
 have cW:=λl=>t88 t.text (h++l) hz.tx
 have cN:=λl=>qdg t.norm (h++l) hz.nm
 unfold txB at hR;rw[eg,ek]at hR cI;obtain⟨bp,hbp⟩: ∃b,b=ZL t.page:=⟨_,rfl⟩
 obtain⟨bm,hbm⟩: ∃b,b=ZL t.name:=⟨_,rfl⟩
 obtain⟨bg,hbg⟩: ∃b,b=iU t.text:=⟨_,rfl⟩
 obtain⟨bk,hbk⟩: ∃b,b=Hh t.text:=⟨_,rfl⟩
 obtain⟨bw,hbw⟩: ∃b,b=kU t.text:=⟨_,rfl⟩
 obtain⟨bn,hbn⟩: ∃b,b=Hi t.norm:=⟨_,rfl⟩
 rw[<-hbp,<-hbm,<-hbg,<-hbk,<-hbw,<-hbn]at hR;simp only[<-hbp]at cP;simp only[<-hbm]at cM;simp only[<-hbg]at hG;simp only[<-hbk]at cK;simp only[<-hbw]at cW;simp only[<-hbn]at cN;unfold tkC at cI;rw[hf]at cI k1 k2;cases ga:f.testBit 1<;>cases gb:f.testBit 3<;>rw[ga]at e2 hR cI<;>rw[gb]at e8 hR cI<;>simp only[Bool.false_eq_true,if_true,if_false,and_true,and_false,Bool.not_false,Bool.not_true,Bool.and_false,Bool.and_true]at e2 e8 hR cI
 ·cases bw with
  |false=>
   rw[Bool.false_and,ipo rfl]at hR;rw[hR];refine acO jH ?_;simp (disch:=omega) only[wo,tkC,hf,k1,k2,e2,e8,go_sem]
   repeat' first|(refine qy (cW _) ?_;simp (disch:=omega) only[go_sem])|exact wj|fail
  |true=>
  rw[Bool.true_and]at hR;cases bn with
  |false=>
   rw[ipo rfl]at hR;rw[hR];refine acO jH ?_;simp (disch:=omega) only[wo,tkC,hf,k1,k2,e2,e8,go_sem]
   repeat' first|(refine qy (cW _) ?_;simp (disch:=omega) only[go_sem])|((first|refine cA (cI _) ?_ ?_|refine cG (λe=>cN _) ?_ ?_);exact flk;simp (disch:=omega) only[go_sem])|exact wj|fail
  |true=>
   rw[ine (by simp)]at hR
   by_cases g4:t.line<0
   ·have k4:(t.line<0)=True:=eqt g4;rw[ipo g4]at hR;rw[hR];refine acO jH ?_;simp (disch:=omega) only[wo,tkC,hf,k1,k2,e2,e8,go_sem]
    repeat' first|(refine qy (cW _) ?_;simp (disch:=omega) only[k4,go_sem])|((first|refine cA (cI _) ?_ ?_|refine cG (λe=>cN _) ?_ ?_);exact flk;simp (disch:=omega) only[k4,go_sem])|(apply qb;exact rvk;simp only[go_sem];first|exact qi|apply qe)|(with_reducible first|intro _|apply aiA)|exact clz|fail
   have k4:(t.line<0)=False:=eqf g4;rw[ine g4]at hR;cases bp with
   |false=>
    rw[ipo (.inl rfl)]at hR;rw[hR];refine acO jH ?_;simp (disch:=omega) only[wo,tkC,hf,k1,k2,e2,e8,go_sem]
    repeat' first|(refine qy (cW _) ?_;simp (disch:=omega) only[k4,go_sem])|(refine qj ( .bool false) ?_;simp (disch:=omega) only[go_sem])|((first|refine cA (cI _) ?_ ?_|refine cG (λe=>cN _) ?_ ?_|refine cA (cP _) ?_ ?_);exact flk;simp (disch:=omega) only[k4,go_sem])|(apply qb;exact rvk;simp only[go_sem];first|exact qi|apply qe)|(with_reducible first|intro _|apply aiA)|exact clz|fail
   |true=>
   cases bm with
   |false=>
    rw[ipo (.inr rfl)]at hR;rw[hR];refine acO jH ?_;simp (disch:=omega) only[wo,tkC,hf,k1,k2,e2,e8,go_sem]
    repeat' first|(refine qy (cW _) ?_;simp (disch:=omega) only[k4,go_sem])|((first|refine cA (cI _) ?_ ?_|refine cG (λe=>cN _) ?_ ?_|refine cA (cP _) ?_ ?_|refine cG (λe=>cM _) ?_ ?_);exact flk;simp (disch:=omega) only[k4,go_sem])|(apply qb;exact rvk;simp only[go_sem];first|exact qi|apply qe)|(with_reducible first|intro _|apply aiA)|exact clz|fail
   |true=>
    rw[ine (by simp)]at hR;rw[hR];refine acO jH ?_;simp (disch:=omega) only[wo,tkC,hf,k1,k2,e2,e8,go_sem]
    repeat' first|(refine qy (cW _) ?_;simp (disch:=omega) only[k4,go_sem])|((first|refine cA (cI _) ?_ ?_|refine cG (λe=>cN _) ?_ ?_|refine cA (cP _) ?_ ?_|refine cG (λe=>cM _) ?_ ?_);exact flk;simp (disch:=omega) only[k4,go_sem])|(apply qb;exact rvk;simp only[go_sem];first|exact qi|apply qe)|(with_reducible first|intro _|apply aiA)|exact clz|fail
 ·cases bk with
  |false=>
   rw[Bool.false_and,ipo rfl]at hR;rw[hR];refine acO jH ?_;simp (disch:=omega) only[wo,tkC,hf,k1,k2,e2,e8,go_sem]
   repeat' first|(refine qy (cK _) ?_;simp (disch:=omega) only[go_sem])|(apply qb;exact rvk;simp only[go_sem];first|exact qi|apply qe)|(with_reducible first|intro _|apply aiA)|exact clz|fail
  |true=>
  rw[Bool.true_and]at hR
  by_cases g3:t.norm=t.text
  ·have k3:(t.norm=t.text)=True:=eqt g3;rw[dqt g3,ine (by simp)]at hR
   by_cases g4:t.line<0
   ·have k4:(t.line<0)=True:=eqt g4;rw[ipo g4]at hR;rw[hR];refine acO jH ?_;simp (disch:=omega) only[wo,tkC,hf,k1,k2,e2,e8,go_sem]
    repeat' first|(refine qy (cK _) ?_;simp (disch:=omega) only[k4,go_sem])|(refine qj ( .bool false) ?_;simp (disch:=omega) only[k4,go_sem])|(refine cA (cI _) flk ?_;simp (disch:=omega) only[k3,k4,go_sem])|(apply qb;exact rvk;simp only[go_sem];first|exact qi|apply qe)|(with_reducible first|intro _|apply aiA)|exact clz|fail
   have k4:(t.line<0)=False:=eqf g4;rw[ine g4]at hR;cases bp with
   |false=>
    rw[ipo (.inl rfl)]at hR;rw[hR];refine acO jH ?_;simp (disch:=omega) only[wo,tkC,hf,k1,k2,e2,e8,go_sem]
    repeat' first|(refine qy (cK _) ?_;simp (disch:=omega) only[k4,go_sem])|(refine qj ( .bool false) ?_;simp (disch:=omega) only[k4,go_sem])|((first|refine cA (cI _) ?_ ?_|refine cA (cP _) ?_ ?_);exact flk;simp (disch:=omega) only[k3,k4,go_sem])|(apply qb;exact rvk;simp only[go_sem];first|exact qi|apply qe)|(with_reducible first|intro _|apply aiA)|exact clz|fail
   |true=>
   cases bm with
   |false=>
    rw[ipo (.inr rfl)]at hR;rw[hR];refine acO jH ?_;simp (disch:=omega) only[wo,tkC,hf,k1,k2,e2,e8,go_sem]
    repeat' first|(refine qy (cK _) ?_;simp (disch:=omega) only[k4,go_sem])|(refine qj ( .bool false) ?_;simp (disch:=omega) only[k4,go_sem])|((first|refine cA (cI _) ?_ ?_|refine cA (cP _) ?_ ?_|refine cG (λe=>cM _) ?_ ?_);exact flk;simp (disch:=omega) only[k3,k4,go_sem])|(apply qb;exact rvk;simp only[go_sem];first|exact qi|apply qe)|(with_reducible first|intro _|apply aiA)|exact clz|fail
   |true=>
    rw[ine (by simp)]at hR;rw[hR];refine acO jH ?_;simp (disch:=omega) only[wo,tkC,hf,k1,k2,e2,e8,go_sem]
    repeat' first|(refine qy (cK _) ?_;simp (disch:=omega) only[k4,go_sem])|(refine qj ( .bool false) ?_;simp (disch:=omega) only[k4,go_sem])|((first|refine cA (cI _) ?_ ?_|refine cA (cP _) ?_ ?_|refine cG (λe=>cM _) ?_ ?_);exact flk;simp (disch:=omega) only[k3,k4,go_sem])|(apply qb;exact rvk;simp only[go_sem];first|exact qi|apply qe)|(with_reducible first|intro _|apply aiA)|exact clz|fail
  ·have k3:(t.norm=t.text)=False:=eqf g3;rw[dqf g3,ipo rfl]at hR;rw[hR];refine acO jH ?_;simp (disch:=omega) only[wo,tkC,hf,k1,k2,e2,e8,go_sem]
   repeat' first|(refine qy (cK _) ?_;simp (disch:=omega) only[go_sem])|(refine qj ( .bool false) ?_;simp (disch:=omega) only[go_sem])|(refine cA (cI _) flk ?_;simp (disch:=omega) only[k3,go_sem])|(apply qb;exact rvk;simp only[go_sem];first|exact qi|apply qe)|(with_reducible first|intro _|apply aiA)|exact clz|fail
 ·cases bg with
  |false=>
   rw[Bool.false_and,ipo rfl]at hR;rw[hR];refine acO jH ?_;simp (disch:=omega) only[wo,tkC,hf,k1,k2,e2,e8,go_sem]
   repeat' first|(refine qy (hG _) ?_;simp (disch:=omega) only[go_sem])|exact wj|(with_reducible first|intro _|apply aiA)|exact clz|fail
  |true=>
  rw[Bool.true_and]at hR
  by_cases g3:t.norm=t.text
  ·have k3:(t.norm=t.text)=True:=eqt g3;rw[dqt g3,ine (by simp)]at hR
   by_cases g4:t.line<0
   ·have k4:(t.line<0)=True:=eqt g4;rw[ipo g4]at hR;rw[hR];refine acO jH ?_;simp (disch:=omega) only[wo,tkC,hf,k1,k2,e2,e8,go_sem]
    repeat' first|(refine qy (hG _) ?_;simp (disch:=omega) only[k4,go_sem])|(refine qj ( .bool false) ?_;simp (disch:=omega) only[k4,go_sem])|(refine cA (cI _) flk ?_;simp (disch:=omega) only[k3,k4,go_sem])|exact wj|(with_reducible first|intro _|apply aiA)|exact clz|fail
   have k4:(t.line<0)=False:=eqf g4;rw[ine g4]at hR;cases bp with
   |false=>
    rw[ipo (.inl rfl)]at hR;rw[hR];refine acO jH ?_;simp (disch:=omega) only[wo,tkC,hf,k1,k2,e2,e8,go_sem]
    repeat' first|(refine qy (hG _) ?_;simp (disch:=omega) only[k4,go_sem])|(refine qj ( .bool false) ?_;simp (disch:=omega) only[k4,go_sem])|((first|refine cA (cI _) ?_ ?_|refine cA (cP _) ?_ ?_);exact flk;simp (disch:=omega) only[k3,k4,go_sem])|exact wj|(with_reducible first|intro _|apply aiA)|exact clz|fail
   |true=>
   cases bm with
   |false=>
    rw[ipo (.inr rfl)]at hR;rw[hR];refine acO jH ?_;simp (disch:=omega) only[wo,tkC,hf,k1,k2,e2,e8,go_sem]
    repeat' first|(refine qy (hG _) ?_;simp (disch:=omega) only[k4,go_sem])|(refine qj ( .bool false) ?_;simp (disch:=omega) only[k4,go_sem])|((first|refine cA (cI _) ?_ ?_|refine cA (cP _) ?_ ?_|refine cG (λe=>cM _) ?_ ?_);exact flk;simp (disch:=omega) only[k3,k4,go_sem])|exact wj|(with_reducible first|intro _|apply aiA)|exact clz|fail
   |true=>
    rw[ine (by simp)]at hR;rw[hR];refine acO jH ?_;simp (disch:=omega) only[wo,tkC,hf,k1,k2,e2,e8,go_sem]
    repeat' first|(refine qy (hG _) ?_;simp (disch:=omega) only[k4,go_sem])|(refine qj ( .bool false) ?_;simp (disch:=omega) only[k4,go_sem])|((first|refine cA (cI _) ?_ ?_|refine cA (cP _) ?_ ?_|refine cG (λe=>cM _) ?_ ?_);exact flk;simp (disch:=omega) only[k3,k4,go_sem])|exact wj|(with_reducible first|intro _|apply aiA)|exact clz|fail
  ·have k3:(t.norm=t.text)=False:=eqf g3;rw[dqf g3,ipo rfl]at hR;rw[hR];refine acO jH ?_;simp (disch:=omega) only[wo,tkC,hf,k1,k2,e2,e8,go_sem]
   repeat' first|(refine qy (hG _) ?_;simp (disch:=omega) only[go_sem])|(refine qj ( .bool false) ?_;simp (disch:=omega) only[go_sem])|(refine cA (cI _) flk ?_;simp (disch:=omega) only[k3,go_sem])|exact wj|(with_reducible first|intro _|apply aiA)|exact clz|fail
 ·rw[hR];refine acO jH ?_;simp (disch:=omega) only[wo,tkC,hf,k1,k2,e2,e8,go_sem]
  repeat' first|exact wj|(with_reducible first|intro _|apply aiA)|exact clz|fail
end RC
end
section
open Go Go.Proofs AF
def wH:List Nat:= []
theorem N3:qN Tryz.prog 33 9 0 [RV.tmp 4] (cCT 92):=fi Tryz.f33 [] wH []
theorem qcH:qN Tryz.prog 72 9 0 [RV.tmp 4] (cCT 129):=fi Tryz.f72 [] wH []
theorem Mc:qN Tryz.prog 129 19 0 [RV.tmp 4] (cIF 7 (some 7)):=fi Tryz.f129 [] wH []
theorem Q8:qN Tryz.prog 102 19 0 [RV.tmp 4] (cIF 2 (some 2)):=fi Tryz.f102 [] wH []
theorem Ed:qN Tryz.prog 92 19 0 [RV.tmp 4] (cIF 3 (some 3)):=fi Tryz.f92 [] wH []
theorem Bf:qN Tryz.prog 172 9 0 [RV.tmp 4] (cCT 229):=fi Tryz.f172 [] wH []
theorem Bl:qN Tryz.prog 229 19 0 [RV.tmp 4] (cIF 6 (some 6)):=fi Tryz.f229 [] wH []
theorem Nn:qN Tryz.prog 235 9 0 [RV.tmp 4] (cCT 272):=fi Tryz.f235 [] wH []
def C7:C:=
 (v6 [MC 6 (.bool false)] ((v6 [MV 10 0,O1 11 .len 10,MV 12 1,O1 13 .len 12,BI 14 .neq 11 13] (v7 14 (wa [MC 6 (.bool false)]))).seq ((v6 [MV 15 0,O1 16 .len 15,vU 17 0] (C.block
 0 (v6 [BI 18 .lss 17 16] ((v8 18 0).seq ((C.block 1 (v6 [MV 19 17,O2 20 (.idxA 2) 15 17,O1 21 (.load (some 2)) 20,⟨some 8,none,.alloc 0 97 [.nl,.nl],[]⟩,MV 7 19,ST 2 8 21] (v6
 [MV 22 1,MV 23 7,O2 24 (.idxA 2) 22 23,O1 25 (.load (some 2)) 24,⟨some 9,none,.alloc 1 97 [.nl,.nl],[]⟩,ST 2 9 25] (v6 [MV 26 2,O1 27 (.load (some 2)) 8,O1 28 (.load (some 2))
 9,ON 29 .callv [.t 26,.t 27,.t 28],O1 30 (.un UnOp.not) 29] (v7 30 (wa [MC 6 (.bool false)])))))).seq (wc [vV 31 .add 17 1,MV 17 31])))).loop)).seq (wa [MC 6 (.bool true)]))))
theorem Bn:qN Tryz.prog 237 32 2 [RV.tmp 6] C7:=fi Tryz.f237 [8,9] wH []
theorem NB:qN Tryz.prog 272 19 0 [RV.tmp 4] (cIF 1 none):=fi Tryz.f272 [] wH []
end
