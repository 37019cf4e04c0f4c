import Derived.Test.YtmieflnoheifbaaGreatDoorK8
import Derived.Test.YtmieflnoheifbaaGreatDoorK3
import Derived.Test.YtmieflnoheifbaaGreatDoorK5
import Derived.Test.YtmieflnoheifbaaGreatDoorProg
import Derived.Test.YtmieflnoheifbaaGreatDoorK4
import Derived.Below
import Derived.Test.YtmieflnoheifbaaGreatDoorK1
import Derived.Lib.AppendIntMem
import Derived.Stop.LaidErr
import Derived.Lib.ItoaLen
set_option linter.all false
set_option maxHeartbeats 64000000
set_option maxRecDepth 100000
section
open Go Go.Proofs AF HY
namespace HY
theorem T0(c:UInt8)(h:JN):ACalls Tryz.prog 222 [.int .u8 (c.toNat:Int)] h (.bool (spc c)) h:=by
 refine qy GQ (by simp) ?_;simp only[lco,lnl,Nat.reduceAdd,Nat.reduceSub,List.replicate,lca,lna,lan];simp (disch:=omega) only[EA,go_sem]
 repeat' first|(refine qI (yr c _) ?_ ?_;exact flk;simp (disch:=omega) only[go_sem])|exact tS|fail
def vO(s:List UInt8):AV:= .sl s.length λi=> [.int .u8 ((s.getD i 0).toNat:Int)]
def ym(p:UInt8->Bool):List UInt8->Nat->Int
 | [],_=> -1
 |c::r,i=>if p c=true then i else ym p r (i+1)
theorem sM(p:UInt8->Bool): ∀(s:List UInt8) (i:Nat),(0<=ym p s i↔s.any p=true)∧ -1<=ym p s i:=by
 intro s
 induction s with
 |nil=>intro i;simp[ym]
 |cons c r ih=>
  intro i
  by_cases hc:p c=true
  ·have e:ym p (c::r) i=i:=ipo hc;rw[e,List.any_cons,hc];simp
   try omega
  ·have e:ym p (c::r) i=ym p r (i+1):=ine hc;rw[e,List.any_cons];have hc':p c=false:=by simpa using hc
   rw[hc',Bool.false_or];exact ih (i+1)
theorem sL(p:UInt8->Bool)(s:List UInt8)(i:Nat):decide (0<=ym p s i)=s.any p:=by
 rw[Bool.eq_iff_iff,decide_eq_true_eq];exact (sM p s i).1
theorem Ua(s:List UInt8)(p:UInt8->Bool)(F:Nat)(h:JN)(hs:s.length<=1000000000)(hp: ∀(c:UInt8) (h:JN),ACalls Tryz.prog F [.int .u8 (c.toNat:Int)] h (.bool (p c)) h):ACalls Tryz.prog 282 [vO s,.fn (.func F) [] []] h (.int .i64 (ym p s 0)) h:=by
 refine qy He (by simp) ?_;simp only[lco,lnl,Nat.reduceAdd,Nat.reduceSub,List.replicate,lca,lna,lan];simp (disch:=omega) only[ER,vO,go_sem];refine qr (T:=λi:Nat=>qY 19 [(0,vO s),(1,.fn (.func F) [] []),(6,vO s),(7,.int .i64 s.length),(8,.int .i64 i)]) (H:=λ_=>h) (inv:=λi=>i<=s.length∧ym p s 0=ym p (s.drop i) i) (m:=λi=>s.length-i) 0 ⟨oma,by simp⟩ (Wk.temps ?_) ?_
 ·(simp only[vO,qY,List.foldl,go_sem,qg,qc,qb,qf];try exact tT)
 ·rintro i ⟨i1,i2⟩ K hK;rw[i2]
  by_cases hi:i<s.length
  ·have e:s.drop i=s.getD i 0::s.drop (i+1):=by rw[List.drop_eq_getElem_cons hi];simp[gdqA,hi]
   rw[e]at i2 ⊢;simp only[ym]at i2 ⊢;have hpc:=λh=>hp (s.getD i 0) h
   cases hb:p (s.getD i 0)with
   |true=>
    rw[hb]at hpc;simp (disch:=omega) only[qY,List.foldl,vO,go_sem]
    repeat' first|(refine qz (hpc _) ?_;simp (disch:=omega) only[go_sem,qp])|(apply qh;exact rvk;simp only[go_sem];first|exact qi|apply qe)|(with_reducible first|intro _|apply aiA)|exact clz|fail
   |false=>
    rw[hb]at hpc i2;simp (disch:=omega) only[qY,List.foldl,vO,go_sem]
    repeat' first|(refine qz (hpc _) ?_;simp (disch:=omega) only[go_sem,qp])|(apply qh;exact rvk;simp only[go_sem];apply qe)|(with_reducible first|intro _|apply aiA)|exact clz|fail
    refine hK _ _ (i+1) ⟨oma,by rw[i2];simp⟩ oma (Wk.temps ?_)
    (simp only[vO,qY,List.foldl,go_sem,qg,qc,qb,qf];try exact tT)
  ·have e:i=s.length:=by omega
   subst e;rw[List.drop_length];simp (disch:=omega) only[qY,List.foldl,vO,go_sem]
   repeat' first|exact tS|(with_reducible first|intro _|apply aiA)|exact clz|fail
theorem TZ(s:List UInt8)(p:UInt8->Bool)(F:Nat)(h:JN)(hs:s.length<=1000000000)(hp: ∀(c:UInt8) (h:JN),ACalls Tryz.prog F [.int .u8 (c.toNat:Int)] h (.bool (p c)) h):ACalls Tryz.prog 221 [vO s,.fn (.func F) [] []] h (.bool (s.any p)) h:=by
 rw[<-sL p s 0];refine qy GO (by simp) ?_;simp only[lco,lnl,Nat.reduceAdd,Nat.reduceSub,List.replicate,lca,lna,lan];simp (disch:=omega) only[Ez,vO,go_sem]
 repeat' first|(refine qI (Ua s p F _ hs hp) ?_ ?_;exact flk;simp (disch:=omega) only[go_sem])|exact tS|fail
theorem t88(s:List UInt8)(h:JN)(hs:s.length<=1000000000):ACalls Tryz.prog 145 [.str s] h (.bool (kp s)) h:=by
 obtain⟨c,hc⟩:=Qt (zS s)
 have h104: ∀h:JN,ACalls Tryz.prog 219 [.str s] h (.int .i64 c) h:=λh=>by rw[hc];exact PG s h hs
 have hw:kp s=(decide (0<s.length)&&decide (s.length<=64)&&decide (c=0)&&(decide (kind (ch s 0)=1)||decide (kind (ch s 0)=3))&& !(s.any spc)):=by rw[hc];rfl
 rw[hw]
 by_cases g1:0<s.length
 ·have k1:(s= [])=False:=eqf (by intro e;rw[e]at g1;simp at g1)
  by_cases g2:s.length<=64
  ·have k2:(64<(s.length:Int))=False:=eqf oma
   by_cases g3:c=0
   ·refine qy lj (by simp) ?_;simp only[lco,lnl,Nat.reduceAdd,Nat.reduceSub,List.replicate,lca,lna,lan];simp (disch:=omega) only[rC,k1,k2,g3,go_sem]
    repeat' first|((first|refine qI (yr _ _) ?_ ?_|refine qI (TZ s spc 222 _ hs T0) ?_ ?_);exact flk;simp (disch:=omega) only[go_sem])|(refine qN (λe=>⟨?_,h104 _⟩) ?_;exact flk;simp (disch:=omega) only[g3,jW,go_sem])|(apply qh;exact rvk;simp only[go_sem];apply qd)|(with_reducible first|intro _|apply aiA)|exact clz|fail
    all_goals (generalize s.any spc=b;grind)
   ·refine qy lj (by simp) ?_;simp only[lco,lnl,Nat.reduceAdd,Nat.reduceSub,List.replicate,lca,lna,lan];simp (disch:=omega) only[rC,k1,k2,go_sem]
    repeat' first|(refine qN (λe=>⟨?_,h104 _⟩) ?_;exact flk;simp (disch:=omega) only[g3,jW,go_sem])|exact tS|fail
    all_goals (generalize s.any spc=b;grind)
  ·have k2:(64<(s.length:Int))=True:=eqt oma;refine qy lj (by simp) ?_;simp only[lco,lnl,Nat.reduceAdd,Nat.reduceSub,List.replicate,lca,lna,lan];simp (disch:=omega) only[rC,k1,k2,go_sem]
   repeat' first|(refine qj ((.int .i64 0)) ?_;simp (disch:=omega) only[go_sem])|(apply qh;exact rvk;simp only[go_sem];apply qd)
   all_goals (generalize s.any spc=b;grind)
 ·have e:s= []:=List.eq_nil_of_length_eq_zero oma;subst e;refine qy lj (by simp) ?_;simp only[lco,lnl,Nat.reduceAdd,Nat.reduceSub,List.replicate,lca,lna,lan];simp (disch:=omega) only[rC,go_sem]
  repeat' first|(refine qj ((.int .i64 0)) ?_;simp (disch:=omega) only[go_sem])|exact tS|fail
  all_goals (generalize List.any _ spc=b;grind)
end HY
end
section
open Go Go.Proofs AF
def kR:List Nat:= [249,175,179,251,306,307,355,381,178]
theorem GF:qK Tryz.prog 18 26 0 [RV.tmp 4] cEQ:=fi Tryz.f18 [] kR []
theorem Hm:qK Tryz.prog 30 26 0 [RV.tmp 4] cEQ:=fi Tryz.f30 [] kR []
theorem Ol:qK Tryz.prog 22 9 0 [RV.tmp 4] (cCT 80):=fi Tryz.f22 [] kR []
theorem OD:qK Tryz.prog 80 19 0 [RV.tmp 4] cIX:=fi Tryz.f80 [] kR []
theorem F8:qK Tryz.prog 128 9 0 [RV.tmp 4] (cCT 125):=fi Tryz.f128 [] kR []
theorem F7:qK Tryz.prog 125 19 0 [RV.tmp 4] cIX:=fi Tryz.f125 [] kR []
theorem GZ:qK Tryz.prog 239 19 0 [RV.tmp 4] (cIF 1 none):=fi Tryz.f239 [] kR []
def EK:C:=
 (pk [MC 4 (.str []),MC 5 (.bool false)] (p9 [MV 6 0,MV 7 1,O2 8 (.call 308 true) 6 7,O1 9 (.ext 0) 8,O1 10 (.ext 1) 8,MV 4 9,MV 5 10]))
theorem G2:qK Tryz.prog 254 11 0 [RV.tmp 4,RV.tmp 5] EK:=fi Tryz.f254 [] kR []
def Yr:C:=
 (pk [MC 4 (.str []),MC 5 (.bool false)] ((pk [MV 6 0,MV 7 1,O2 8 (.call 356 true) 6 7,O1 9 (.un UnOp.not) 8] (p7 9 (p9 [MV 10 0,MV 4 10,MC 5 (.bool false)]))).seq (p9 [MV 11
 0,MV 12 0,O1 13 .slen 12,MV 14 1,O1 15 .slen 14,BI 16 .sub 13 15,O2 17 (.sslc false true) 11 16,MV 4 17,MC 5 (.bool true)])))
theorem Xj:qK Tryz.prog 308 18 0 [RV.tmp 4,RV.tmp 5] Yr:=fi Tryz.f308 [] kR []
def jR:C:=
 (pk [O1 1 (.box 0 119) 0,oF 2 0] ((pk [oE 6 4 1,LD 7 6,oT 8 .lss 7 0,MV 9 8,tv 10 9 4 1,tE 11 9 10,ph 12 9 (.bin .gtr) 11 (i6 31),PT 13 9 12] (p7 13 (p9 [oF 2 2]))).seq (pk [O1
 14 (.load (some 6)) 1,OC 15 (.call 211 true) 14 (i6 2),O1 16 (.load (some 6)) 1,OC 17 (.call 211 true) 16 (i6 8),MV 3 15,MV 4 17] ((pk [MV 18 3,MV 19 18,MG 20 19 true 4,PF 21
 19 20] (p7 21 (p9 [oF 2 8]))).seq ((C.block 0 (pk [MV 51 3,MV 50 51] (C.cond (.t 50) (pk [oE 52 0 1,LD 53 52,O1 54 (.call 212 true) 53,O1 55 (.un UnOp.not) 54,MV 56 55,tv 57 56
 1 1,tE 58 56 57,tv 59 56 0 1,tE 60 56 59,pb 61 56 (.bin .neq) 58 60,PT 62 56 61] (p7 62 (p9 [oF 2 11]))) (pk [MV 64 4,MV 63 64] (C.cond (.t 63) (pk [oE 65 0 1,LD 66 65,O1 67
 .slen 66,oT 68 .neq 67 1,MV 69 68,tv 70 69 0 1,tE 71 69 70,ph 72 69 .sidx 71 (i6 0),oX 73 69 (.call 163 true) 72,ph 74 69 (.bin .neq) 73 (i6 5),pc 75 69 74,P1 76 75 true (.fldA
 0) 1,P1 77 75 true (.load none) 76,PC 78 75 true .sidx 77 (i6 0),P1 79 75 true (.call 163 true) 78,PC 80 75 true (.bin .neq) 79 (i6 4),QF 81 69 false 75 80,PT 82 69 81,MV 83
 82,tv 84 83 1 1,tE 85 83 84,tv 86 83 0 1,tE 87 83 86,pb 88 83 (.bin .neq) 85 87,PT 89 83 88] (p7 89 (p9 [oF 2 11]))) ((pk [oE 22 0 1,LD 23 22,O1 24 (.call 89 true) 23,O1 25
 (.un UnOp.not) 24,MV 26 25,tv 27 26 1 1,tE 28 26 27,ph 29 26 (.bin .eql) 28 (.str []),PT 30 26 29,MV 31 30,tv 32 31 1 1,tE 33 31 32,oX 34 31 .slen 33,ph 35 31 (.bin .gtr) 34
 (i6 64),PT 36 31 35] (p7 36 (p9 [oF 2 11]))).seq (pk [oF 5 0] (C.block 1 ((pk [MV 37 5,oE 38 1 1,LD 39 38,O1 40 .slen 39,BI 41 .lss 37 40] (p8 41 1)).seq ((C.block 2 (pk [oE 44
 1 1,LD 45 44,MV 46 5,O2 47 .sidx 45 46,O1 48 (.call 213 true) 47,O1 49 (.un UnOp.not) 48] (p7 49 (p9 [oF 2 11])))).seq (sm 42 5))).loop)))))))).seq ((pk [oE 90 2 1,oE 91 1
 90,LD 92 91,oT 93 .lss 92 0] (p7 93 (p9 [oF 2 2]))).seq ((pk [oE 94 2 1,oE 95 0 94,LD 96 95,O1 97 (.call 214 true) 96,O1 98 (.un UnOp.not) 97,MV 99 98,tv 100 99 5 1,tE 101 99
 100,oX 102 99 (.call 214 true) 101,oX 103 99 (.un UnOp.not) 102,PT 104 99 103] (p7 104 (p9 [oF 2 14]))).seq (p9 [oF 2 0]))))))))
theorem zY:qK Tryz.prog 138 105 1 [RV.tmp 2] jR:=fi Tryz.f138 [1] kR []
def Ep:C:=
 (pk [O1 2 (.box 0 119) 0,MC 4 (.bool false)] (p9 [oE 5 4 2,LD 6 5,MV 7 1,BI 8 .quo 6 7,oT 9 .rem 8 2,oT 10 .eql 9 1,MV 4 10]))
theorem GI:qK Tryz.prog 211 11 1 [RV.tmp 4] Ep:=fi Tryz.f211 [2] kR []
def Es:C:=
 (pk [MC 2 (.bool false)] ((pk [oF 3 1] (C.block 0 ((pk [MV 4 3,oT 5 .leq 4 64] (p8 5 0)).seq ((C.block 1 (pk [MV 8 0,MV 9 3,O1 10 (.call 116 true) 9,ON 11 (.bin .add) [.c (.str
 [91]),.t 10],BC 12 .add 11 (.str [93]),BI 13 .eql 8 12] (p7 13 (p9 [MC 2 (.bool true)])))).seq (sm 6 3))).loop)).seq (p9 [MC 2 (.bool false)])))
theorem GK:qK Tryz.prog 212 14 0 [RV.tmp 2] Es:=fi Tryz.f212 [] kR []
def rF:C:=
 (pk [MC 2 (.bool false)] (pk [MV 4 0,O1 5 (.call 163 true) 4,MV 3 5] (p9 [MV 6 3,oT 7 .eql 6 1,MV 8 7,pc 9 8 3,ph 10 8 (.bin .eql) 9 (i6 2),PT 11 8 10,MV 12 11,pc 13 12 3,ph 14
 12 (.bin .eql) 13 (i6 3),PT 15 12 14,MV 16 15,pc 17 16 3,ph 18 16 (.bin .eql) 17 (i6 4),PT 19 16 18,MV 2 19])))
theorem lm:qK Tryz.prog 213 20 0 [RV.tmp 2] rF:=fi Tryz.f213 [] kR []
def Yi:C:=
 (pk [MC 2 (.bool false)] (p9 [MV 3 0,BC 4 .eql 3 (.str []),MV 5 4,pc 6 5 0,oX 7 5 (.call 136 true) 6,PT 8 5 7,MV 2 8]))
theorem W9:qK Tryz.prog 214 9 0 [RV.tmp 2] Yi:=fi Tryz.f214 [] kR []
end
section
open Go Go.Proofs AF HY LN
namespace RC
abbrev Str:=List UInt8
def qx(L:List Int):AV:= .sl L.length λi=> [.int .i64 (L.getD i 0)]
def ir(s:Str):Bool:=decide (1<=s.length)&&decide (s.drop (s.length-1)= [42])
def VY(s:Str):Bool:=if ir s=true then vf (s.take (s.length-1))&&decide (s.length<=16) else vf s
theorem A6:((1:Nat):Int)=1:=rfl
theorem Xu(s:Str)(h:JN)(hs:s.length<=1000000000):ACalls Tryz.prog 356 [.str s,.str [42]] h (.bool (ir s)) h:=by
 unfold ir
 by_cases g:1<=s.length
 ·have k1:((1:Int)<=s.length)=True:=eqt oma;have k2:((s.length:Int)-1).toNat=s.length-1:=by omega
  have k3:(0<=(s.length:Int)-1)=True:=eqt oma;have k4:((s.length:Int)-1<=s.length)=True:=eqt oma;have k5:List.take (s.length-(s.length-1)) (List.drop (s.length-1) s)=s.drop (s.length-1):=ltl (by simp);rw[dqt g];refine acO Xk ?_;simp (disch:=omega) only[Ys,A6,k1,k2,k3,k4,k5,go_sem]
  repeat' first|exact tS|with_reducible apply aiA|exact clz|fail
 ·have k1:((1:Int)<=s.length)=False:=eqf oma;rw[dqf g];refine acO Xk ?_;simp (disch:=omega) only[Ys,A6,k1,go_sem]
  repeat' first|exact tS|fail
theorem YM(s:Str)(h:JN)(hs:s.length<=1000000000):ACalls Tryz.prog 308 [.str s,.str [42]] h (.tup [.str (if ir s=true then s.take (s.length-1) else s),.bool (ir s)]) h:=by
 have c1:=λh=>Xu s h hs
 cases g:ir s with
 |true=>
  rw[g]at c1;have g1:1<=s.length:=by unfold ir at g;simp at g;omega
  have k2:((s.length:Int)-1).toNat=s.length-1:=by omega
  have k3:(0<=(s.length:Int)-1)=True:=eqt oma;have k4:((s.length:Int)-1<=s.length)=True:=eqt oma;refine acO Xj ?_;simp (disch:=omega) only[Yr,go_sem]
  repeat' first|(refine cA (c1 _) flk ?_;simp (disch:=omega) only[A6,k2,k3,k4,Nat.sub_zero,go_sem])|exact tS|with_reducible apply aiA|exact clz|fail
 |false=>
  rw[g]at c1;refine acO Xj ?_;simp (disch:=omega) only[Yr,go_sem]
  repeat' first|(refine cA (c1 _) flk ?_;simp (disch:=omega) only[go_sem])|exact tS|fail
theorem FM(s:Str)(h:JN)(hs:s.length<=1000000000):ACalls Tryz.prog 254 [.str s,.str [42]] h (.tup [.str (if ir s=true then s.take (s.length-1) else s),.bool (ir s)]) h:=by
 have c1:=λh=>YM s h hs
 refine acO G2 ?_;simp (disch:=omega) only[EK,go_sem]
 repeat' first|(refine cA (c1 _) flk ?_;simp (disch:=omega) only[go_sem])|exact tS|with_reducible apply aiA|exact clz|fail
theorem V9(s:Str)(h:1<=s.length):ir s=decide (((s[s.length-1]?).getD 0).toNat=42):=by
 unfold ir;rw[dqt h,Bool.true_and];have e:s.drop (s.length-1)= [(s[s.length-1]?).getD 0]:=by
  rw[List.drop_eq_getElem_cons (show s.length-1<s.length by omega),zg (show s.length-1<s.length by omega),List.drop_eq_nil_of_le oma];rfl
 rw[e];congr 1;simp only[List.cons.injEq,and_true,eq_iff_iff];exact⟨λh=>by rw[h];rfl,λh=>UInt8.toNat_inj.1 (by rw[h];rfl)⟩
def we(f:Nat->Int):Nat->Nat->Int
 |_,0=>0
 |i,k+1=>if f i≠0 then f i else we f (i+1) k
theorem dW{f:Nat->Int}{n i:Nat}(hi:i<=n)(h: ∀j,j<i->f j=0):we f 0 n=we f i (n-i):=by
 induction i with
 |zero=>rfl
 |succ i ih=>
  rw[ih oma (λj hj=>h j oma),show n-i=(n-(i+1))+1 by omega];simp only[we,h i oma,ne_eq,not_true_eq_false,if_false]
theorem kN{f:Nat->Int}{n i:Nat}(hi:i<n)(h: ∀j,j<i->f j=0)(hp:f i≠0):we f 0 n=f i:=by
 rw[dW oma h,show n-i=(n-i-1)+1 by omega];simp only[we];rw[ipo hp]
theorem zZ{f:Nat->Int}{n:Nat}(h: ∀j,j<n->f j=0):we f 0 n=0:=by
 rw[dW (nlr n) h,Nat.sub_self];rfl
theorem jr{f:Nat->Int}{n:Nat}:we f 0 n=0↔ ∀j,j<n->f j=0:=by
 refine⟨λh=> ?_,zZ⟩;intro j
 induction j using Nat.strongRecOn with
 |_ j ih=>
  intro hj
  by_cases e:f j=0
  ·exact e
  ·rw[kN hj (λk hk=>ih k hk oma) e]at h;exact absurd h e
def BU(b:Int)(l:List Int)(i:Nat):Int:=if l.getD i 0<0∨b<=l.getD i 0 then 2 else if 0<i∧l.getD i 0<=l.getD (i-1) 0 then 10 else 0
def Nh(b:Int)(l:List Int):Int:=we (BU b l) 0 l.length
structure Gr where
 name:Str
 mem:List Int
 deriving Inhabited
def grC(g:Gr):JT:= [.str g.name,qx g.mem]
def ZG(gs:List Gr):AV:= .sl gs.length λi=>grC (gs.getD i default)
def jB(names:List Str)(i:Nat):Int:=if VY (names.getD i [])=false then 14 else if jm (λj=>decide (names.getD i []=names.getD j [])) i=true then 7 else 0
def Ak(names:List Str)(gs:List Gr)(i:Nat):Int:=
 if vf (gs.getD i default).name=false then 14 else if jm (λj=>decide ((gs.getD i default).name=names.getD j [])) names.length=true then 7 else
  if jm (λj=>decide ((gs.getD i default).name=(gs.getD j default).name)) i=true then 7 else if (gs.getD i default).mem.length=0 then 5 else Nh names.length (gs.getD i default).mem
def sgE(names:List Str)(gs:List Gr):Int:=
 if 32<names.length then 4 else if we (jB names) 0 names.length≠0 then we (jB names) 0 names.length else if 16<gs.length then 4 else we (Ak names gs) 0 gs.length
theorem AE(n:Nat)(g:Nat->Str)(x:Str)(h:JN)(hn:n<=1000000000):ACalls Tryz.prog 125 [.sl n (λj=> [.str (g j)]),.str x] h (.int .i64 (w8 (λj=>decide (x=g j)) n 0)) h:=by
 have:=Im F7 n (λj=> .s (g j)) (.s x) h (λ_ _=>rfl) oma
 simpa only[At.v,At.s.injEq] using this
theorem N1(n:Nat)(g:Nat->Str)(x:Str)(h:JN)(hn:n<=1000000000):ACalls Tryz.prog 128 [.sl n (λj=> [.str (g j)]),.str x] h (.bool (jm (λj=>decide (x=g j)) n)) h:=
 W4 F8 ⟨rfl,rfl⟩ ⟨rfl,rfl⟩ (AE n g x h hn)
end RC
end
section
namespace AF
open Go
theorem Wk.kill{t:JT}{h:JN}{k v:Nat}{ty:TypeId}{cs:JT}(hk:qu k h=some (.mem v ty cs)):Wk t h t (qt k h (.emp (v+1))):=by
 intro N w σ a H;have hkl:k<σ.length:=by rw[H.hr.len];exact zh hk
 have ho:=zg hkl;obtain⟨m1,_⟩:=H.hr.obj k _ _ hk ho;obtain⟨g1,g2⟩:=H.hr.kill ho;rw[m1]at g1 g2;exact⟨_,⟨g1,H.sz,λi c x hc hx=>(H.tm i c x hc hx).ext g2,vQ g2 H.df⟩,g2⟩
end AF
end
section
open Go Go.Proofs AF HY LN
namespace RC
theorem mB{p q:Nat->Bool}{n:Nat}(h: ∀i,i<n->p i=q i):jm p n=jm q n:=by
 cases e:jm q n with
 |true=>obtain⟨i,h1,h2⟩:=qP.1 e;exact qP.2 ⟨i,h1,by rw[h i h1,h2]⟩
 |false=>exact qq.2 λi hi=>by rw[h i hi];exact qq.1 e i hi
def OZ(l:List Int):Nat:=l.foldl (λa n=>a|||2^n.toNat) 0
def inB(b:Int)(l:List Int):Prop:= ∀i,i<l.length->0<=l.getD i 0∧l.getD i 0<b
theorem Xx(l:List Int): ∀a:Nat,a<2^64->(∀n∈l,0<=n∧n<64)->l.foldl (λa n=>a|||2^n.toNat) a<2^64∧ ∀i,(l.foldl (λa n=>a|||2^n.toNat) a).testBit i=(a.testBit i||decide ((i:Int)∈l)):=by
 induction l with
 |nil=>intro a ha _;exact⟨ha,λi=>by simp⟩
 |cons n l ih=>
  intro a ha hl;have hn:=hl n (by simp);obtain⟨h1,h2⟩:=ih (a|||2^n.toNat) (Nat.or_lt_two_pow ha (Nat.pow_lt_pow_right oma oma)) (λm hm=>hl m (by simp[hm]));refine⟨h1,λi=> ?_⟩;rw[List.foldl_cons,h2 i,Nat.testBit_or,Nat.testBit_two_pow]
  by_cases e:(i:Int)=n
  ·have e':n.toNat=i:=by omega
   simp[e,e']
  ·have e': ¬n.toNat=i:=by omega
   simp[e,e']
theorem yC{l:List Int}{b:Int}(h:inB b l): ∀n∈l,0<=n∧n<b:=by
 intro n hn;obtain⟨i,hi,e⟩:=List.getElem_of_mem hn
 have:=h i hi
 rw[gdqA,zg hi]at this;rw[<-e];exact this
theorem Iu{l:List Int}(h:inB 64 l):OZ l<2^64:=(Xx l 0 (by decide) (yC h)).1
theorem AP{l:List Int}(h:inB 64 l)(i:Nat):(OZ l).testBit i=decide ((i:Int)∈l):=by
 have:=(Xx l 0 (by decide) (yC h)).2 i
 rw[Nat.zero_testBit,Bool.false_or]at this;exact this
def tZ(p:Nat->Bool)(k:Nat):List Int:=((List.range k).filter p).map Int.ofNat
def qM(L:List Int):JT:=L.map λn=> .int .i64 n
theorem jg(L:List Int):(qM L).length=L.length:=by simp[qM]
theorem ed(L M:List Int):qM (L++M)=qM L++qM M:=by simp[qM]
theorem tQ{L:List Int}:qM L= []↔L= []:=by simp[qM]
theorem eJ{L:List Int}{n:Nat}(g:AV->AV)(hg: ∀n,g (.int .i64 n)= .int .i64 n)(hn:n=L.length):VLe (.sl n λi=>(((qM L).drop i).take 1).map g) (qx L):=by
 subst hn;refine VLe.sl_eq rfl (λi hi=> ?_);unfold qM;rw[<-List.map_drop,List.drop_eq_getElem_cons hi,List.map_cons,List.take_succ_cons,List.take_zero,List.map_cons,List.map_nil,hg,gdqA,zg hi];rfl
theorem mY(L:List Int):(qx L).flag=true:=rfl
theorem iv(L:List Int):(qx L).strip=qx L:=rfl
theorem tA{fz:Nat->Bool}{h:JN}{n:Nat}(L:List Int):frz fz h (n+1) (qx L)=qx L:=rfl
theorem u6{fz:Nat->Bool}{h:JN}{n:Nat}(L:List Int):rei fz h (n+1) (qx L)=qx L:=rfl
theorem sV(L:List Str):(strs L).flag=true:=rfl
theorem ov(L:List Str):(strs L).strip=strs L:=rfl
theorem Kr{fz:Nat->Bool}{h:JN}{n:Nat}(L:List Str):frz fz h (n+1) (strs L)=strs L:=rfl
theorem VH{fz:Nat->Bool}{h:JN}{n:Nat}(L:List Str):rei fz h (n+1) (strs L)=strs L:=rfl
theorem sS(L:List Gr):(ZG L).flag=true:=rfl
theorem oq(L:List Gr):(ZG L).strip=ZG L:=rfl
theorem Ko{fz:Nat->Bool}{h:JN}{n:Nat}(L:List Gr):frz fz h (n+1) (ZG L)=ZG L:=rfl
theorem VF{fz:Nat->Bool}{h:JN}{n:Nat}(L:List Gr):rei fz h (n+1) (ZG L)=ZG L:=rfl
attribute [go_sem] mY iv tA u6 sV ov Kr VH sS oq Ko VF
def nIx(names:List Str)(s:Str):Int:=w8 (λj=>decide (s=names.getD j [])) names.length 0
def gIx(gs:List Gr)(s:Str):Int:=w8 (λj=>decide (s=(gs.getD j default).name)) gs.length 0
def VX(names:List Str)(gs:List Gr)(sg:List Str)(i:Nat):Int:=
 if nIx names (sg.getD i [])<0∧gIx gs (sg.getD i [])<0 then 6 else if jm (λj=>decide (sg.getD i []=sg.getD j [])) i=true then 7 else 0
def els(names:List Str)(gs:List Gr)(s:Str):List Int:=if 0<=nIx names s then [nIx names s] else (gs.getD (gIx gs s).toNat default).mem
def WQ(names:List Str)(gs:List Gr)(sg:List Str):Nat->Nat
 |0=>0
 |i+1=>WQ names gs sg i|||OZ (els names gs (sg.getD i []))
def mU(names:List Str)(gs:List Gr)(sg:List Str):Int:=if sgE names gs≠0 then 1 else we (VX names gs sg) 0 sg.length
def aw(names:List Str)(gs:List Gr)(sg:List Str):List Int:=if mU names gs sg=0 then tZ (WQ names gs sg sg.length).testBit 64 else []
theorem BV{b:Int}{l:List Int}(h:Nh b l=0):inB b l∧ ∀i,0<i->i<l.length->l.getD (i-1) 0<l.getD i 0:=by
 unfold Nh at h;rw[jr]at h;refine⟨λi hi=> ?_,λi h0 hi=> ?_⟩
 ·have:=h i hi
  unfold BU at this;split at this
  ·cases this
  ·rename_i hc;omega
 ·have:=h i hi
  unfold BU at this;split at this
  ·cases this
  ·split at this
   ·cases this
   ·rename_i hc;omega
structure M6 (names:List Str) (gs:List Gr):Prop where
 n32:names.length<=32
 g16:gs.length<=16
 na: ∀i,i<names.length->jB names i=0
 gr: ∀i,i<gs.length->Ak names gs i=0
theorem XK{names:List Str}{gs:List Gr}(h:sgE names gs=0):M6 names gs:=by
 unfold sgE at h;split at h
 ·cases h
 split at h
 ·rename_i h1;exact absurd h h1
 split at h
 ·cases h
 rename_i h1 h2 h3;exact⟨oma,oma,jr.1 (by simpa using h2),jr.1 h⟩
theorem Am{names:List Str}{gs:List Gr}(h:M6 names gs){i:Nat}(hi:i<gs.length):Nh names.length (gs.getD i default).mem=0:=by
 have:=h.gr i hi
 unfold Ak at this
 repeat' split at this
 all_goals first|(cases this;done)|exact this
theorem t6(names:List Str)(s:Str):(∃k:Nat,k<names.length∧names.getD k []=s∧nIx names s=k)∨((∀j,j<names.length->s≠names.getD j [])∧nIx names s= -1):=by
 rcases zk (λj=>decide (s=names.getD j [])) names.length with⟨i,h1,h2,_,h4⟩|⟨h1,h2⟩
 ·exact .inl ⟨i,h1,(of_decide_eq_true h2).symm,h4⟩
 ·exact .inr ⟨λj hj=>of_decide_eq_false (h1 j hj),h2⟩
theorem tB(gs:List Gr)(s:Str):(∃k:Nat,k<gs.length∧(gs.getD k default).name=s∧gIx gs s=k)∨((∀j,j<gs.length->s≠(gs.getD j default).name)∧gIx gs s= -1):=by
 rcases zk (λj=>decide (s=(gs.getD j default).name)) gs.length with⟨i,h1,h2,_,h4⟩|⟨h1,h2⟩
 ·exact .inl ⟨i,h1,(of_decide_eq_true h2).symm,h4⟩
 ·exact .inr ⟨λj hj=>of_decide_eq_false (h1 j hj),h2⟩
theorem sG{names:List Str}{gs:List Gr}{s:Str}(h:M6 names gs)(hf: ¬(nIx names s<0∧gIx gs s<0)):inB names.length (els names gs s):=by
 unfold els;rcases t6 names s with⟨k,h1,_,h3⟩|⟨_,h3⟩
 ·rw[h3,ipo oma];intro i hi
  have:i=0:=by simpa using hi
  subst this;simp only[List.getD_cons_zero];omega
 ·rw[h3,ine oma];rcases tB gs s with⟨k,g1,_,g3⟩|⟨_,g3⟩
  ·rw[g3,itn];exact (BV (Am h g1)).1
  ·exact absurd ⟨oma,oma⟩ hf
theorem lD{b c:Int}{l:List Int}(h:inB b l)(hbc:b<=c):inB c l:=λi hi=>⟨(h i hi).1,by have:=(h i hi).2;omega⟩
theorem XX{names:List Str}{gs:List Gr}{sg:List Str}(h:M6 names gs): ∀ {i:Nat},(∀j,j<i->VX names gs sg j=0)->WQ names gs sg i<2^64∧ ∀k,(WQ names gs sg i).testBit k=decide (∃j,j<i∧(k:Int)∈els names gs (sg.getD j [])):=by
 intro i
 induction i with
 |zero=>intro _;exact⟨Nat.two_pow_pos 64,λk=>by simp[WQ]⟩
 |succ i ih=>
  intro hz;obtain⟨h1,h2⟩:=ih (λj hj=>hz j oma);have h3: ¬(nIx names (sg.getD i [])<0∧gIx gs (sg.getD i [])<0):=by
   intro hc
   have:=hz i oma
   unfold VX at this;rw[ipo hc]at this;cases this
  have h4:inB 64 (els names gs (sg.getD i [])):=lD (sG h h3) (by have:=h.n32;omega);refine⟨Nat.or_lt_two_pow h1 (Iu h4),λk=> ?_⟩;unfold WQ;rw[Nat.testBit_or,h2 k,AP h4 k,<-Bool.decide_or];refine decide_eq_decide.2 ⟨?_,?_⟩
  ·rintro (⟨j,hj,hm⟩|hm)
   ·exact⟨j,oma,hm⟩
   ·exact⟨i,oma,hm⟩
  ·rintro⟨j,hj,hm⟩
   by_cases e:j=i
   ·subst e;exact .inr hm
   ·exact .inl ⟨j,oma,hm⟩
end RC
end
section
namespace AF
open Go Go.RowKit
theorem Ext.ofBelow{w w':World}{σ:List OB}{h:JN}(H:HR w σ h)(hb:Below w.heap.size w w'):HR w' σ h∧Ext w σ w' σ:=by
 have e:Ext w σ w' σ:=⟨hb.os,hb.tape,hb.output,hb.size,λb hl _=>hb.block b hl,λ_ h=> .inl h,λ_ o h=>⟨o,h,nlr _,λ_=>rfl⟩,
  λb r h=>⟨r,(hb.block b (Array.getElem?_eq_some_iff.1 h).1).trans h⟩⟩
 exact⟨⟨H.len,H.inj,λk o b h1 h2=>Nat.lt_of_lt_of_le (H.lt k o b h1 h2) hb.size,λk a o h1 h2=>(H.obj k a o h1 h2).ext e (λb h3=>hb.block b (H.lt k o b h2 h3))⟩,e⟩
end AF
end
section
namespace AF
open Go Go.ChangeShapes Go.WideShapes Go.ChangeAt Go.RowKit
def uL:OB:=⟨none,0,0,0⟩
theorem gR(b:Nat): ¬own [uL] b:=by
 rintro⟨k,o,h,h2⟩;cases k with
 |zero=>simp at h;subst h;cases h2
 |succ k=>simp at h
theorem Il{w:World}{bs:List Nat}{G:World->Prop}(hb: ∀b,b∈bs-> ∃arr T fz,w.heap[b]? =some (.cells arr T fz))(hG: ∀w':World,(∀b,b∈bs->w'.heap[b]? =w.heap[b]?)->G w'):
  HR w [uL] [.pin bs G]:=by
 refine⟨rfl,?_,?_,?_⟩
 ·intro i j oi oj b hi hj bi;cases i with
  |zero=>simp at hi;subst hi;cases bi
  |succ i=>simp at hi
 ·intro k o b hk hb';cases k with
  |zero=>simp at hk;subst hk;cases hb'
  |succ k=>simp at hk
 ·intro k a o ha ho;cases k with
  |zero=>
   simp at ha ho;subst ha;subst ho;exact⟨rfl,rfl,λb h=>⟨gR b,hb b h⟩,hG⟩
  |succ k=>simp at ha
theorem Y0(w:World):Ext w [] w [uL]:=
 ⟨rfl,rfl,rfl,nlr _,λ_ _ _=>rfl,λb h=>absurd h (gR b),λk o h=>by simp at h,λ_ r h=>⟨r,h⟩⟩
theorem pr{w w':World}{σ':List OB}(h:Ext w [uL] w' σ'):Below w.heap.size w w':=⟨h.os,h.tape,h.output,h.size,λk hk=>h.keep k hk (gR k)⟩
theorem VRs.ext{w w':World}{σ σ':List OB}(h:Ext w σ w' σ'){avs:JT}{xs:List Value}(hv:VRs w σ avs xs):VRs w' σ' avs xs:=⟨hv.1,λi c x hc hx=>(hv.2 i c x hc hx).ext h⟩
theorem IF{w:World}{σ:List OB}{h:JN}{k:Nat}{bs:List Nat}{G:World->Prop}(H:HR w σ h)(hk:h[k]? =some (.pin bs G)):G w:=by
 have hl:k<σ.length:=by rw[H.len];exact (lgs.1 hk).1
 obtain⟨_,_,_,h4⟩:=H.obj k _ σ[k] hk (zg hl);exact h4 w (λ_ _=>rfl)
theorem eW{H:Type}{enc:TypeId×Value->H}{P:Program}{W:World}{f:Func}{fid:FuncId}{s:ChangeSpec}{args:Array Value}{ds gs:List (DataW H)}{before:List MemPlace}{tb:TypeId}{bs:List Nat}{G:World->Prop}
  (hl:laidOutB P=true) (hv:s.vars= []) (hfn: ∀ds',ds'.length=f.params.size->s.fn H ds'= { results:= [.lit (.bool true)],args:=ds' })
  (hrt:f.resultTypes= #[tb]) (htb:P.underlying tb=some .bool) (hro: ∀t∈f.params.toList,P.readableRec t=true∧t<P.types.size)
  (hW:DataW.Whole enc P f.params.toList s.vars false W args.toList ds gs before)
  (hb: ∀b,b∈bs-> ∃arr T fz,W.heap[b]? =some (.cells arr T fz)) (hG: ∀w':World,(∀b,b∈bs->w'.heap[b]? =W.heap[b]?)->G w')
  (hc: ∀p,DataW.TrodAll enc P W 0 (λ_=>true) true f.params.toList args.toList ds p->ds.length=f.params.size∧ ∃avs:JT,VRs W [] avs args.toList∧ACalls P fid avs [.pin bs G] (.bool true) [.pin bs G]):
  Calls P fid args W λe W'=> ∃v,e= .returned v∧s.post enc P f false true false false W args v W':=by
 have hW':=hW;obtain⟨p,q,hA,hV,rfl,hz,_⟩:=hW;rw[hv]at hV;obtain⟨rfl,rfl⟩:=trodVars_none hV;obtain⟨hlen,avs,h1,h2⟩:=hc p hA;rw[lan]at hW';have h3:=h2.2 W [uL] args.toList (Il hb hG) (h1.ext (Y0 W));rw[Array.toArray_toList]at h3;refine (callsIn_wide.1 h3).mono ?_;rintro e W' ⟨v,σ',rfl,g1,g2,g3⟩;obtain rfl:=jH g2;exact⟨_,rfl,KH hl hv (hfn ds hlen) hrt htb hro hW' hA (pr g3)⟩
theorem dc{P:Program}{w w':World}{name:String}{g:Nat}(hg:P.globalNamed name=some g)(h:w'.heap[g]? =w.heap[g]?):w'.var? P name=w.var? P name:=by
 unfold World.var?;rw[hg];simp only[Option.bind_some];rw[h]
theorem au{P:Program}{w:World}{name:String}{g:Nat}{cs:Array Value}(hg:P.globalNamed name=some g)(h:w.var? P name=some cs): ∃arr T fz,w.heap[g]? =some (.cells arr T fz):=by
 unfold World.var? at h;rw[hg]at h;simp only[Option.bind_some]at h;split at h
 ·rename_i cs T fz hc;exact⟨_,_,_,hc⟩
 ·cases h
end AF
end
section
open Go Go.Proofs AF HY
namespace LN
def XT (w : World) : Prop := Lib.TabIs Tryz.prog w "internal/strconv.uint64pow10" .u64 Lib.pow10Tab
def M4 (w : World) : Prop := (∃ tp p, w.var? Tryz.prog "strconv.ErrSyntax" = some #[.iface tp p]) ∧ ∃ tp p, w.var? Tryz.prog "strconv.ErrRange" = some #[.iface tp p]
def kM(Q:World->Prop)(h:JN):Prop:= ∃(k:Nat) (bs:List Nat) (G:World->Prop),h[k]? =some (.pin bs G)∧ ∀w,G w->Q w
theorem kM.app{Q:World->Prop}{h:JN}(hp:kM Q h)(l:JN):kM Q (h++l):=by
 obtain⟨k,bs,G,h1,h2⟩:=hp;exact⟨k,bs,G,by rw[List.getElem?_append_left (lgs.1 h1).1];exact h1,h2⟩
theorem kM.mono{Q Q':World->Prop}{h:JN}(hp:kM Q h)(hq: ∀w,Q w->Q' w):kM Q' h:=by
 obtain⟨k,bs,G,h1,h2⟩:=hp;exact⟨k,bs,G,h1,λw hw=>hq w (h2 w hw)⟩
theorem kM.of{Q:World->Prop}{h:JN}{w:World}{σ:List OB}(hp:kM Q h)(H:HR w σ h):Q w:=by
 obtain⟨k,bs,G,h1,h2⟩:=hp;exact h2 w (IF H h1)
theorem t48(n:Int)(h:JN)(hp:kM XT h)(h0: -9223372036854775808<=n)(h1:n<=9223372036854775807):ACalls Tryz.prog 116 [.int .i64 n] h (.str (Lib.itoa n)) h:=by
 refine⟨AZ Tryz.func116 (by kernel_rfl) (by kernel_rfl),λw σ xs H hv=> ?_⟩;obtain⟨x,rfl,hx⟩:=hv.one;rw[zK hx];refine (callsIn_wide.2 (Any.strconv_Itoa Tryz.laysM171 n h0 h1 w (hp.of H))).mono ?_;rintro e w' ⟨rfl,k,os,rfl⟩;obtain⟨g1,g2⟩:=Ext.ofBelow H (Lib.below_grow w.heap.size w (nlr _) k os);exact⟨_,σ,rfl,g1,.imm .str,g2⟩
def DO(s:List UInt8):Int:=
 match Lib.atoiAll s with
 | .ok _=>0
 | .range=>Lib.atoiSat s
 |_=>0
def X7(s:List UInt8):AV:=
 match Lib.atoiAll s with
 | .ok v=> .tup [.int .i64 v,.nilif]
 |_=> .tup [.int .i64 (DO s),.ifc]
theorem t50(s:List UInt8)(h:JN)(hp:kM M4 h)(hl:s.length<=281474976710656):ACalls Tryz.prog 195 [.str s] h (X7 s) h:=by
 refine⟨AZ Tryz.func195 (by kernel_rfl) (by kernel_rfl),λw σ xs H hv=> ?_⟩;obtain⟨x,rfl,hx⟩:=hv.one;rw[jS hx];have hsz:(⟨s.toArray⟩:ByteArray).size<=281474976710656:=by simpa[ByteArray.size] using hl
 obtain⟨⟨t1,p1,e1⟩,t2,p2,e2⟩:=hp.of H;unfold X7 DO;have hd:(⟨s.toArray⟩:ByteArray).data.toList=s:=rfl;cases hs:Lib.atoiAll s
 ·rename_i v;refine (callsIn_wide.2 (Any.strconv_Atoi_ok Tryz.laysC172 ⟨s.toArray⟩ oma v (by rw[hd];exact hs) w)).mono ?_;rintro e w' ⟨rfl,hw⟩;have hb:Go.RowKit.Below w.heap.size w w':=by
   rcases hw with rfl|⟨t,rfl⟩
   ·exact Go.RowKit.Below.refl _ _
   ·exact Lib.bytesWorld_below _ _ _
  obtain⟨g1,g2⟩:=Ext.ofBelow H hb;refine⟨_,σ,rfl,g1,.imm (.tup rfl (λi c y hc hy=> ?_)),g2⟩
  match i with
  |0=>simp at hc hy;subst hc hy;exact .int
  |1=>simp at hc hy;subst hc hy;exact .nilif
  |i+2=>simp at hc
 ·refine (callsIn_wide.2 (Any.strconv_Atoi_syntax_var Tryz.laysC172 ⟨s.toArray⟩ hsz (by rw[hd];exact hs) t1 p1 w e1)).mono ?_;rintro e w' ⟨N,rfl,_,_,hb⟩;obtain⟨g1,g2⟩:=Ext.ofBelow H hb;refine⟨_,σ,rfl,g1,.imm (.tup rfl (λi c y hc hy=> ?_)),g2⟩
  match i with
  |0=>simp at hc hy;subst hc hy;exact .int
  |1=>simp at hc hy;subst hc hy;exact .ifc
  |i+2=>simp at hc
 ·refine (callsIn_wide.2 (Any.strconv_Atoi_range_var Tryz.laysC172 ⟨s.toArray⟩ hsz (by rw[hd];exact hs) t2 p2 w e2)).mono ?_;rintro e w' ⟨N,rfl,_,_,hb⟩;obtain⟨g1,g2⟩:=Ext.ofBelow H hb;refine⟨_,σ,rfl,g1,.imm (.tup rfl (λi c y hc hy=> ?_)),g2⟩
  match i with
  |0=>simp at hc hy;subst hc hy;exact .int
  |1=>simp at hc hy;subst hc hy;exact .ifc
  |i+2=>simp at hc
theorem uu: ∀(l r:List UInt8) (acc:Nat),Lib.parseUint10 acc (l++r)=match Lib.parseUint10 acc l with
  | .ok v=>Lib.parseUint10 v r
  |e=>e:=by
 intro l
 induction l with
 |nil=>intro r acc;rfl
 |cons c l ih=>
  intro r acc;rw[lca,Lib.parseUint10,Lib.parseUint10]
  by_cases h1:48<=c.toNat∧c.toNat<=57
  ·rw[ipo h1,ipo h1]
   by_cases h2:1844674407370955162<=acc
   ·rw[ipo h2,ipo h2]
   ·rw[ine h2,ine h2]
    by_cases h3:18446744073709551616<=acc*10+(c.toNat-48)
    ·rw[ipo h3,ipo h3]
    ·rw[ine h3,ine h3];exact ih r _
  ·rw[ine h1,ine h1]
theorem bQ{d:Nat}(h:d<10):(UInt8.ofNat (48+d)).toNat=48+d:=by
 rw[UInt8.toNat_ofNat'];omega
theorem uv: ∀u,u<1000000000->Lib.parseUint10 0 (Lib.decDigits u)= .ok u:=by
 intro u
 induction u using Nat.strongRecOn with
 |_ u ih=>
  intro hu
  by_cases h:u<10
  ·rw[Lib.decDigits,dif_pos h,Lib.parseUint10,bQ h,ipo oma,ine oma,ine oma,Lib.parseUint10];congr 1;omega
  ·rw[Lib.decDigits,dif_neg h,uu,ih (u/10) oma oma];simp only;rw[Lib.parseUint10,bQ oma,ipo oma,ine oma,ine oma,Lib.parseUint10];congr 1;omega
theorem mR: ∀u,∀c∈Lib.decDigits u,48<=c.toNat∧c.toNat<=57:=by
 intro u
 induction u using Nat.strongRecOn with
 |_ u ih=>
  intro c hc
  by_cases h:u<10
  ·rw[Lib.decDigits,dif_pos h,List.mem_singleton]at hc;subst hc;rw[bQ h];omega
  ·rw[Lib.decDigits,dif_neg h]at hc;rcases List.mem_append.1 hc with hc|hc
   ·exact ih (u/10) oma c hc
   ·rw[List.mem_singleton]at hc;subst hc;rw[bQ oma];omega
theorem FP(u:Nat):Lib.decDigits u≠ []:=by
 intro h
 have:=Lib.decDigits_length u
 have:=Lib.nDigits_pos u
 rw[h]at*;simp at*;omega
theorem pp{n:Int}(h0:0<=n)(h1:n<1000000000):Lib.atoiAll (Lib.itoa n)= .ok n:=by
 obtain⟨u,rfl⟩: ∃u:Nat,n=u:=⟨n.toNat,oma⟩
 rw[Lib.itoa_nonneg];have hd:=mR u;have hp:=uv u oma;have hne:=FP u;cases hl:Lib.decDigits u with
 |nil=>exact absurd hl hne
 |cons c r=>
  rw[hl]at hd hp;have hc:=hd c (List.mem_cons_self ..);unfold Lib.atoiAll;simp only;rw[ine (show¬(c.toNat=43∨c.toNat=45) by omega)];unfold Lib.parseMag;rw[ine (by simp),hp];simp only;rw[ine oma,ine oma,ine oma]
end LN
end
section
open Go Go.Proofs AF HY LN
namespace RC
theorem ZU{s:Str}{v:Int}(h:Lib.atoiAll s= .ok v): -9223372036854775808<=v∧v<=9223372036854775807:=by
 unfold Lib.atoiAll at h;split at h
 ·cases h
 ·simp only at h;split at h
  ·cases h
  ·cases h
  ·split at h
   ·cases h
   ·split at h
    ·cases h
    ·rename_i h1 h2;cases h;split
     ·rename_i h3;have:=mt (And.intro h3) h2;omega
     ·rename_i h3;have:=mt (And.intro h3) h1;omega
theorem gM{k:Nat}(h:k<=64):(Lib.itoa (k:Int)).length<=9:=by
 rw[Lib.itoa_nonneg]
 by_cases g:k<10
 ·rw[Lib.decDigits,dif_pos g];simp
 ·rw[Lib.decDigits,dif_neg g,Lib.decDigits,dif_pos (show k/10<10 by omega)];simp
def SG(w:World):Prop:=XT w∧M4 w
theorem SG.pow{h:JN}(hp:kM SG h):kM XT h:=hp.mono λ_ h=>h.1
theorem SG.err{h:JN}(hp:kM SG h):kM M4 h:=hp.mono λ_ h=>h.2
def pre(s:Str):Bool:=decide (1<=s.length)&&decide (s.take 1= [91])
def dX(s:Str):Bool:=(List.range 64).any λk=>decide (s=91::(Lib.itoa ((k+1:Nat):Int)++ [93]))
def P6(s:Str):Bool:=kp s||(if s.length=1 then decide (kind (ch s 0)=5)||decide (kind (ch s 0)=4) else dX s)
def wE(s:Str):Int:=if P6 s=true then 0 else 11
def ZD(L:List Str):Int:=we (λi=>wE (L.getD i [])) 0 L.length
theorem RE(a b c:Str)(n f g:Int)(d:Str)(h:JN)(hf:0<=f)(hf2:f<=31)(hg:0<g):ACalls Tryz.prog 211 [.agg [.str a,.str b,.str c,.int .i64 n,.int .i64 f,.str d],.int .i64 g] h (.bool (decide (f/g%2=1))) h:=by
 have k1:(g=0)=False:=eqf oma;have k2:0<=f/g:=Int.ediv_nonneg hf oma;have k3:f/g<=f:=Int.ediv_le_self _ hf;refine acO GI ?_;simp (disch:=omega) only[Ep,go_sem]
 repeat' first|exact tF|with_reducible apply aiA|exact clz|fail
theorem S0(s:Str)(h:JN)(hs:s.length<=1000000000)(hp:kM SG h):ACalls Tryz.prog 212 [.str s] h (.bool (dX s)) h:=by
 refine acO GK ?_;simp (disch:=omega) only[Es,go_sem];refine qr (T:=λi:Nat=>qY 14 [(0,.str s),(3,.int .i64 ((i+1:Nat):Int))]) (H:=λ_=>h) (inv:=λi=>i<=64∧ ∀j,j<i->s≠91::(Lib.itoa ((j+1:Nat):Int)++ [93])) (m:=λi=>64-i) 0 ⟨nzl _,λj hj=>absurd hj (nnz j)⟩ (Wk.temps ?_) ?_
 ·(simp only[go_sem,qg,qc,qb,qf];try exact tT)
 rintro i ⟨i1,i2⟩ K hK;have ec:((i+1:Nat):Int)=(i:Int)+1:=by omega
 by_cases hi:i<64
 ·have k1:((i:Int)+1<=64)=True:=eqt oma;have c181:=t48 ((i:Int)+1) h (SG.pow hp) oma oma;have hl:(Lib.itoa ((i:Int)+1)).length<=9:=by rw[<-ec];exact gM oma
  obtain⟨t,ht⟩:=Qt (Lib.itoa ((i:Int)+1))
  rw[<-ht]at c181 hl
  by_cases g:s=91::(t++ [93])
  ·have q1:(s=91::(t++ [93]))=True:=eqt g;have hV:dX s=true:=by
    unfold dX;rw[List.any_eq_true];exact⟨i,by simpa using hi,dqt (by rw[ec,<-ht];exact g)⟩
   rw[hV];simp (disch:=omega) only[ec,k1,go_sem]
   repeat' first|(refine cA (c181) flk ?_;simp (disch:=omega) only[q1,go_sem])|exact tS|with_reducible apply aiA|exact clz|fail
  ·have q1:(s=91::(t++ [93]))=False:=eqf g;simp (disch:=omega) only[ec,k1,go_sem]
   repeat' first|(refine cA (c181) flk ?_;simp (disch:=omega) only[q1,go_sem])|with_reducible apply aiA|exact clz|fail
   refine hK _ _ (i+1) ⟨hi,λj hj=> ?_⟩ oma (Wk.temps ?_)
   ·by_cases e':j=i
    ·subst e';rw[ec,<-ht];exact g
    ·exact i2 j oma
   ·(simp only[go_sem,qg,qc,qb,qf];try exact tT)
 ·have k1:((i:Int)+1<=64)=False:=eqf oma;have hV:dX s=false:=by
   cases e:dX s with
   |false=>rfl
   |true=>
    unfold dX at e;rw[List.any_eq_true]at e;obtain⟨j,hj,e⟩:=e;exact absurd (of_decide_eq_true e) (i2 j (by have:j<64:=(by simpa using hj);omega))
  rw[hV];simp (disch:=omega) only[ec,k1,go_sem]
  repeat' first|exact tS|fail
def WV(C L:List Int):List Int:=L.foldl (λC n=>C.set n.toNat (C.getD n.toNat 0+1)) C
theorem Z5(L:List Int): ∀C:List Int,(WV C L).length=C.length:=by
 induction L with
 |nil=>intro C;rfl
 |cons n L ih=>intro C;show (WV (C.set _ _) L).length=_;rw[ih];simp
theorem tO{C:List Int}{n:Nat}(h:n<C.length):(qM C)[n]? =some (.int .i64 (C.getD n 0)):=by
 unfold qM;rw[List.getElem?_map,zg h,gdqA,zg h];rfl
theorem JH{names:List Str}{gs:List Gr}{sg:List Str}:inB names.length (aw names gs sg)∧ ∀i,0<i->i<(aw names gs sg).length->(aw names gs sg).getD (i-1) 0<(aw names gs sg).getD i 0:=by
 unfold aw;split
 ·rename_i h;have h':=h;unfold mU at h';split at h'
  ·cases h'
  rename_i h1;have hok:=XK (by simpa using h1);have hz:=jr.1 h';obtain⟨m1,m2⟩:=XX hok hz;have hsort:(tZ (WQ names gs sg sg.length).testBit 64).Pairwise (· < ·):=by
   unfold tZ;rw[List.pairwise_map];exact (List.pairwise_lt_range.filter _).imp (λh=>Int.ofNat_lt.2 h)
  have hmem: ∀n∈tZ (WQ names gs sg sg.length).testBit 64,0<=n∧n<names.length:=by
   intro n hn;unfold tZ at hn;obtain⟨k,hk,rfl⟩:=List.mem_map.1 hn;have hk2:=(List.mem_filter.1 hk).2;rw[m2 k]at hk2;obtain⟨j,hj,hm⟩:=of_decide_eq_true hk2;have hf: ¬(nIx names (sg.getD j [])<0∧gIx gs (sg.getD j [])<0):=by
    intro hc
    have:=hz j hj
    unfold VX at this;rw[ipo hc]at this;cases this
   exact yC (sG hok hf) _ hm
  refine⟨λi hi=> ?_,λi h0 hi=> ?_⟩
  ·rw[gdqA,zg hi];exact hmem _ (List.getElem_mem hi)
  ·rw[gdqA,gdqA,zg hi,zg (show i-1<_ by omega)];exact List.pairwise_iff_getElem.1 hsort (i-1) i oma hi oma
 ·exact⟨λi hi=>absurd hi (nnz i),λi _ hi=>absurd hi (nnz i)⟩
theorem JI{names:List Str}{gs:List Gr}{sg:List Str}:inB 32 (aw names gs sg):=by
 by_cases h:mU names gs sg=0
 ·have h':=h;unfold mU at h';split at h'
  ·cases h'
  rename_i h1;have hok:=XK (by simpa using h1);exact lD JH.1 (by have:=hok.n32;omega)
 ·have:aw names gs sg= []:=by unfold aw;rw[ine h]
  rw[this];exact λi hi=>absurd hi (nnz i)
structure Tk where
 text:Str
 norm:Str
 page:Str
 line:Int
 flags:Int
 name:Str
 deriving Inhabited, DecidableEq
def tkC(t:Tk):JT:= [.str t.text,.str t.norm,.str t.page,.int .i64 t.line,.int .i64 t.flags,.str t.name]
def zR(l:List Tk):AV:= .sl l.length λi=>tkC (l.getD i default)
def qm(L:List (List Tk)):AV:= .sl L.length λi=> [zR (L.getD i [])]
def qn(L:List (List Int)):AV:= .sl L.length λi=> [qx (L.getD i [])]
structure Co where
 sec:Str
 sig:List Str
 tok:List (List Tk)
 col:List (List Int)
 deriving Inhabited
def coC(x:Co):JT:= [.str x.sec,strs x.sig,qm x.tok,qn x.col]
structure Rd where
 words:List Str
 src:List Int
 deriving Inhabited, DecidableEq
def rdC(r:Rd):JT:= [strs r.words,qx r.src]
def jM(l:List Rd):AV:= .sl l.length λi=>rdC (l.getD i default)
structure Un where
 frm:Int
 to:Int
 rds:List Rd
 deriving Inhabited, DecidableEq
def unC(u:Un):JT:= [.int .i64 u.frm,.int .i64 u.to,jM u.rds]
def qZ(l:List Un):AV:= .sl l.length λi=>unC (l.getD i default)
structure Wd where
 text:Str
 col:Int
 unit:Int
 dec:Int
 joined:Bool
 verse:Bool
 name:Str
 deriving Inhabited, DecidableEq
def wdC(w:Wd):JT:= [.str w.text,.int .i64 w.col,.int .i64 w.unit,.int .i64 w.dec,.bool w.joined,.bool w.verse,.str w.name]
def jl(l:List Wd):AV:= .sl l.length λi=>wdC (l.getD i default)
theorem flag_tksV(L:List Tk):(zR L).flag=true:=rfl
theorem strip_tksV(L:List Tk):(zR L).strip=zR L:=rfl
theorem flag_tkssV(L:List (List Tk)):(qm L).flag=true:=rfl
theorem strip_tkssV(L:List (List Tk)):(qm L).strip=qm L:=rfl
theorem flag_colsV(L:List (List Int)):(qn L).flag=true:=rfl
theorem strip_colsV(L:List (List Int)):(qn L).strip=qn L:=rfl
theorem flag_rdsV(L:List Rd):(jM L).flag=true:=rfl
theorem strip_rdsV(L:List Rd):(jM L).strip=jM L:=rfl
theorem flag_unsV(L:List Un):(qZ L).flag=true:=rfl
theorem strip_unsV(L:List Un):(qZ L).strip=qZ L:=rfl
theorem flag_wdsV(L:List Wd):(jl L).flag=true:=rfl
theorem strip_wdsV(L:List Wd):(jl L).strip=jl L:=rfl
section
variable {fz : Nat -> Bool} {h : JN} {n : Nat}
theorem rei_tksV(L:List Tk):rei fz h (n+1) (zR L)=zR L:=rfl
theorem rei_tkssV(L:List (List Tk)):rei fz h (n+1) (qm L)=qm L:=rfl
theorem rei_colsV(L:List (List Int)):rei fz h (n+1) (qn L)=qn L:=rfl
theorem rei_rdsV(L:List Rd):rei fz h (n+1) (jM L)=jM L:=rfl
theorem rei_unsV(L:List Un):rei fz h (n+1) (qZ L)=qZ L:=rfl
theorem rei_wdsV(L:List Wd):rei fz h (n+1) (jl L)=jl L:=rfl
theorem frz_tksV(L:List Tk):frz fz h (n+1) (zR L)=zR L:=rfl
theorem frz_tkssV(L:List (List Tk)):frz fz h (n+1) (qm L)=qm L:=rfl
theorem frz_colsV(L:List (List Int)):frz fz h (n+1) (qn L)=qn L:=rfl
theorem frz_rdsV(L:List Rd):frz fz h (n+1) (jM L)=jM L:=rfl
theorem frz_unsV(L:List Un):frz fz h (n+1) (qZ L)=qZ L:=rfl
theorem frz_wdsV(L:List Wd):frz fz h (n+1) (jl L)=jl L:=rfl
end
attribute [go_sem] flag_tksV strip_tksV flag_tkssV strip_tkssV flag_colsV strip_colsV flag_rdsV strip_rdsV flag_unsV strip_unsV flag_wdsV strip_wdsV rei_tksV rei_tkssV rei_colsV rei_rdsV rei_unsV rei_wdsV frz_tksV frz_tkssV frz_colsV frz_rdsV frz_unsV frz_wdsV
def np(f:Int):Bool:=f.toNat.testBit 1
def mkB(f:Int):Bool:=f.toNat.testBit 3
def t7(s:Str):Bool:=decide (s= [])||vf s
def Dl(s:Str):Bool:=decide (s.length=1)&&(decide (kind (ch s 0)=5)||decide (kind (ch s 0)=4))
def wi(c:UInt8):Bool:=decide (kind c=1)||(decide (kind c=3)||(decide (kind c=2)||decide (kind c=4)))
def Dm(s:Str):Bool:=decide (s≠ [])&&(decide (s.length<=64)&&(List.range s.length).all λi=>wi (ch s i))
def txB(t:Tk):Bool:=if np t.flags=true then dX t.text&&decide (t.norm=t.text) else if mkB t.flags=true then Dl t.text&&decide (t.norm=t.text) else kp t.text&&Dm t.norm
def tkE(t:Tk):Int:=
 if t.flags<0∨31<t.flags then 2 else if np t.flags=true∧mkB t.flags=true then 8 else if txB t=false then 11 else if t.line<0 then 2 else if t7 t.page=false∨t7 t.name=false then 14 else 0
def cQ(l:List Tk):Int:=if 1024<l.length then 4 else if jm (λj=>decide (tkE (l.getD j default)≠0)) l.length=true then 1 else 0
def srE(x:Co):Int:=
 if vf x.sec=false then 14 else if x.sig.length=0 then 5 else if 32<x.sig.length then 4 else if we (jB x.sig) 0 x.sig.length≠0 then we (jB x.sig) 0 x.sig.length else
  if x.tok.length≠x.sig.length then 9 else we (λi=>cQ (x.tok.getD i [])) 0 x.tok.length
def cnC(col:List (List Int))(s:Nat):Nat->Nat
 |0=>0
 |i+1=>cnC col s i+if (col.getD i []).getD s 0= -1 then 0 else 1
def enB(tok:List (List Tk))(col:List (List Int))(i s:Nat):Bool:=
 decide ((col.getD i []).getD s 0= -1)||(decide ((col.getD i []).getD s 0=(cnC col s i:Int))&&decide ((col.getD i []).getD s 0<((tok.getD s []).length:Int)))
def dP(tok:List (List Tk))(col:List (List Int))(i:Nat):Bool:=
 decide ((col.getD i []).length=tok.length)&&(!jm (λs=> !enB tok col i s) tok.length&&jm (λs=> !decide ((col.getD i []).getD s 0= -1)) tok.length)
def alB(tok:List (List Tk))(col:List (List Int)):Bool:=
 !jm (λi=> !dP tok col i) col.length&& !jm (λs=> !decide (cnC col s col.length=(tok.getD s []).length)) tok.length
def coE(x:Co):Int:=if srE x≠0 then srE x else if alB x.tok x.col=false then 19 else 0
structure CoOk (x:Co):Prop where
 sg:0<x.sig.length∧x.sig.length<=32
 tn:x.tok.length=x.sig.length
 tl: ∀s,s<x.tok.length->(x.tok.getD s []).length<=1024
 te: ∀s,s<x.tok.length-> ∀j,j<(x.tok.getD s []).length->tkE ((x.tok.getD s []).getD j default)=0
 cl: ∀i,i<x.col.length->(x.col.getD i []).length=x.sig.length
 ce: ∀i,i<x.col.length-> ∀s,s<x.sig.length->(x.col.getD i []).getD s 0= -1∨((x.col.getD i []).getD s 0=(cnC x.col s i:Int)∧(x.col.getD i []).getD s 0<((x.tok.getD s []).length:Int))
 cs: ∀i,i<x.col.length-> ∃s,s<x.sig.length∧(x.col.getD i []).getD s 0≠ -1
 ct: ∀s,s<x.sig.length->cnC x.col s x.col.length=(x.tok.getD s []).length
theorem j6{x:Co}(h:coE x=0):CoOk x:=by
 unfold coE at h;split at h
 ·rename_i h1;exact absurd h h1
 rename_i h1;have h1:=Classical.not_not.1 h1;split at h
 ·cases h
 rename_i h2;unfold srE at h1;split at h1
 ·cases h1
 split at h1
 ·cases h1
 rename_i g2;split at h1
 ·cases h1
 rename_i g3;split at h1
 ·rename_i g4;exact absurd h1 g4
 split at h1
 ·cases h1
 rename_i g5;have g5:=Classical.not_not.1 g5;have h3:=jr.1 h1;have h2:alB x.tok x.col=true:=by simpa using h2
 unfold alB at h2;rw[Bool.and_eq_true,Bool.not_eq_true',Bool.not_eq_true',qq,qq]at h2;obtain⟨h4,h5⟩:=h2;have h6: ∀i,i<x.col.length->dP x.tok x.col i=true:=λi hi=>by simpa using h4 i hi
 have hrow: ∀s,s<x.tok.length->(x.tok.getD s []).length<=1024∧ ∀j,j<(x.tok.getD s []).length->tkE ((x.tok.getD s []).getD j default)=0:=λs hs=>by
  have:=h3 s hs
  unfold cQ at this;split at this
  ·cases this
  rename_i k1;split at this
  ·cases this
  rename_i k2;refine⟨oma,λj hj=> ?_⟩
  have:=qq.1 (by simpa using k2) j hj
  simpa using this
 refine⟨oma,g5,λs hs=>(hrow s hs).1,λs hs=>(hrow s hs).2,λi hi=> ?_,λi hi s hs=> ?_,λi hi=> ?_,λs hs=> ?_⟩
 ·have:=h6 i hi
  unfold dP at this;rw[Bool.and_eq_true,decide_eq_true_iff]at this;omega
 ·have:=h6 i hi
  unfold dP at this;rw[Bool.and_eq_true,Bool.and_eq_true,Bool.not_eq_true',qq]at this
  have:=this.2.1 s oma
  have this:enB x.tok x.col i s=true:=by simpa using this
  unfold enB at this;simpa[Bool.or_eq_true,Bool.and_eq_true] using this
 ·have:=h6 i hi
  unfold dP at this;rw[Bool.and_eq_true,Bool.and_eq_true]at this;obtain⟨s,hs,hv⟩:=qP.1 this.2.2;exact⟨s,oma,by simpa using hv⟩
 ·have:=h5 s oma
  simpa using this
def clT(x:Co)(k s:Nat):Option Str:=if (x.col.getD k []).getD s 0<0 then none else some ((x.tok.getD s []).getD ((x.col.getD k []).getD s 0).toNat default).text
def cmB(x:Co)(k:Nat):Bool:= !jm (λs=>decide (clT x k s=none)|| !decide (clT x k s=clT x k 0)) x.sig.length
def rdG(x:Co)(s f:Nat):Nat->List Str
 |0=> []
 |d+1=>rdG x s f d++(clT x (f+d) s).toList
theorem cm(x:Co)(s f:Nat): ∀d,(rdG x s f d).length<=d:=by
 intro d
 induction d with
 |zero=>exact nlr _
 |succ d ih=>
  unfold rdG;rw[lap];cases clT x (f+d) s with
  |none=>simp only[Option.toList_none,lnl];omega
  |some w=>simp only[Option.toList_some,lco,lnl];omega
def lM(L:List Rd)(w:List Str):Int:=w8 (λj=>decide (w=(L.getD j default).words)) L.length 0
def fK(L:List Rd)(w:List Str)(s:Nat):List Rd:=if lM L w<0 then L++ [⟨w,[(s:Int)]⟩] else L.set (lM L w).toNat ⟨w,(L.getD (lM L w).toNat default).src++ [(s:Int)]⟩
def ye(x:Co)(f d:Nat):Nat->List Rd
 |0=> []
 |s+1=>fK (ye x f d s) (rdG x s f d) s
def aF(x:Co)(f t:Nat):List Rd:=ye x f (t-f) x.sig.length
theorem ZQ(L:List Rd)(w:List Str)(s:Nat):(fK L w s).length<=L.length+1:=by
 unfold fK;split
 ·simp
 ·rw[List.length_set];omega
theorem lQ(x:Co)(f d:Nat): ∀s,(ye x f d s).length<=s:=by
 intro s
 induction s with
 |zero=>exact nlr _
 |succ s ih=>
  have:=ZQ (ye x f d s) (rdG x s f d) s
  unfold ye;omega
def unB(x:Co)(beh:Int)(u:Un):Bool:= !(decide (u.frm<=beh)||(decide (u.frm<0)||(decide (u.to<=u.frm)||(decide ((x.col.length:Int)<u.to)|| !decide (u.rds=aF x u.frm.toNat u.to.toNat)))))
def beH(l:List Un)(i:Nat):Int:=if i=0 then-1 else (l.getD (i-1) default).to
def vr(x:Co)(l:List Un):Bool:= !jm (λi=> !unB x (beH l i) (l.getD i default)) l.length
def cvB(l:List Un)(k:Nat):Bool:=jm (λi=>decide ((l.getD i default).frm<=k)&&decide ((k:Int)<(l.getD i default).to)) l.length
def cvA(x:Co)(l:List Un):Bool:= !jm (λk=> !cvB l k&& !cmB x k) x.col.length
def rgB(x:Co)(l:List Un):Bool:=vr x l&&cvA x l
def vaE(x:Co)(l:List Un):Int:=if coE x≠0 then 1 else if rgB x l=false then 20 else 0
def nxt(p:Nat->Bool):Nat->Nat->Nat
 |0,k=>k
 |d+1,k=>if p k=true then k else nxt p d (k+1)
theorem lI(p:Nat->Bool): ∀d k,k<=nxt p d k∧nxt p d k<=k+d∧(∀j,k<=j->j<nxt p d k->p j=false)∧(nxt p d k<k+d->p (nxt p d k)=true):=by
 intro d
 induction d with
 |zero=>intro k;exact⟨nlr _,nlr _,λj h1 h2=>by unfold nxt at h2;omega,λh=>by unfold nxt at h;omega⟩
 |succ d ih=>
  intro k;unfold nxt;split
  ·rename_i h;exact⟨nlr _,oma,λj h1 h2=>by omega,λ_=>h⟩
  ·rename_i h;obtain⟨h1,h2,h3,h4⟩:=ih (k+1);refine⟨oma,oma,λj g1 g2=> ?_,λg=>h4 oma⟩
   by_cases e:j=k
   ·subst e;simpa using h
   ·exact h3 j oma g2
def kE(p:Nat->Bool)(n:Nat):Nat->Nat->List (Nat×Nat)
 |0,_=> []
 |d+1,f=>if n<=f then [] else (if f<nxt p (n-f) f then [(f,nxt p (n-f) f)] else [])++kE p n d (nxt p (n-f) f+1)
def bz(p:Nat->Bool)(n:Nat):List (Nat×Nat):=kE p n (n+1) 0
theorem cu(p:Nat->Bool)(n:Nat): ∀d f,(∀r∈kE p n d f,f<=r.1∧r.1<r.2∧r.2<=n∧ ∀k,r.1<=k->k<r.2->p k=false)∧(n-f<d-> ∀k,f<=k->k<n->p k=false-> ∃r∈kE p n d f,r.1<=k∧k<r.2):=by
 intro d
 induction d with
 |zero=>intro f;exact⟨λr hr=>absurd hr List.not_mem_nil,λh=>absurd h (nnz _)⟩
 |succ d ih=>
  intro f;unfold kE;split
  ·rename_i h;exact⟨λr hr=>absurd hr List.not_mem_nil,λ_ k h1 h2=>by omega⟩
  ·rename_i h;obtain⟨h1,h2,h3,h4⟩:=lI p (n-f) f;obtain⟨i1,i2⟩:=ih (nxt p (n-f) f+1);obtain⟨t,ht⟩:=Qt (nxt p (n-f) f)
   rw[<-ht]at h1 h2 h3 h4 i1 i2 ⊢;refine⟨λr hr=> ?_,λhd k k1 k2 k3=> ?_⟩
   ·rcases List.mem_append.1 hr with hr|hr
    ·split at hr
     ·rename_i hft;rw[List.mem_singleton]at hr;subst hr;exact⟨nlr _,hft,by simp only;omega,h3⟩
     ·cases hr
    ·obtain⟨g1,g2⟩:=i1 r hr;exact⟨oma,g2⟩
   ·by_cases hk:k<t
    ·refine⟨(f,t),List.mem_append_left _ ?_,k1,hk⟩;rw[ipo oma];exact List.mem_singleton.2 rfl
    ·have hne:k≠t:=λe=>by
      subst e;rw[h4 oma]at k3;cases k3
     obtain⟨r,hr,g⟩:=i2 oma k oma k2 k3;exact⟨r,List.mem_append_right _ hr,g⟩
theorem Qg{p:Nat->Bool}{n:Nat}{r:Nat×Nat}(hr:r∈bz p n):r.1<r.2∧r.2<=n∧ ∀k,r.1<=k->k<r.2->p k=false:=((cu p n (n+1) 0).1 r hr).2
theorem lU{p:Nat->Bool}{n k:Nat}(hk:k<n)(hp:p k=false): ∃r∈bz p n,r.1<=k∧k<r.2:=(cu p n (n+1) 0).2 oma k (nzl _) hk hp
structure Nk (x:Co) (l:List Un):Prop where
 pw:l.Pairwise λa b=>a.to<b.frm
 rg: ∀u∈l,0<=u.frm∧u.frm<u.to∧u.to<=x.col.length∧u.rds=aF x u.frm.toNat u.to.toNat
theorem Q7{x:Co}{beh:Int}{u:Un}:unB x beh u=true↔beh<u.frm∧0<=u.frm∧u.frm<u.to∧u.to<=x.col.length∧u.rds=aF x u.frm.toNat u.to.toNat:=by
 unfold unB;simp only[Bool.not_eq_true',Bool.or_eq_false_iff,decide_eq_false_iff_not,Bool.not_eq_false',decide_eq_true_eq];constructor
 ·rintro⟨h1,h2,h3,h4,h5⟩;exact⟨oma,oma,oma,oma,h5⟩
 ·rintro⟨h1,h2,h3,h4,h5⟩;exact⟨oma,oma,oma,oma,h5⟩
theorem xX{x:Co}{l:List Un}(h:vr x l=true):Nk x l:=by
 unfold vr at h;rw[Bool.not_eq_true',qq]at h;have h1: ∀i,i<l.length->beH l i<(l.getD i default).frm∧0<=(l.getD i default).frm∧(l.getD i default).frm<(l.getD i default).to∧(l.getD i default).to<=x.col.length∧(l.getD i default).rds=aF x (l.getD i default).frm.toNat (l.getD i default).to.toNat:=λi hi=>
  Q7.1 (by simpa using h i hi)
 have g: ∀i (hi:i<l.length),l.getD i default=l[i]:=λi hi=>by rw[gdqA,zg hi];rfl
 refine⟨List.pairwise_iff_getElem.2 λi j hi hj hij=> ?_,λu hu=> ?_⟩
 ·have key: ∀d,i+1+d<l.length->(l.getD i default).to<(l.getD (i+1+d) default).frm:=by
   intro d
   induction d with
   |zero=>
    intro hd
    have:=(h1 (i+1) hd).1
    unfold beH at this;rw[ine oma,Nat.add_sub_cancel]at this;exact this
   |succ d ih=>
    intro hd;have h2:=ih oma;have h3:=(h1 (i+1+d) oma).2.2.1;have h4:=(h1 (i+1+d+1) oma).1;unfold beH at h4;rw[ine oma,Nat.add_sub_cancel]at h4;rw[<-Nat.add_assoc];omega
  have:=key (j-(i+1)) oma
  rw[show i+1+(j-(i+1))=j by omega,g i hi,g j hj]at this;exact this
 ·obtain⟨i,hi,rfl⟩:=List.getElem_of_mem hu
  have:=(h1 i hi).2
  rw[g i hi]at this;exact this
theorem sn{l:List Un}{k:Nat}:cvB l k=true↔ ∃u∈l,u.frm<=k∧(k:Int)<u.to:=by
 unfold cvB;rw[qP];constructor
 ·rintro⟨i,hi,h⟩;rw[gdqA,zg hi,Bool.and_eq_true,decide_eq_true_iff,decide_eq_true_iff]at h;exact⟨_,List.getElem_mem hi,h⟩
 ·rintro⟨u,hu,h⟩;obtain⟨i,hi,rfl⟩:=List.getElem_of_mem hu;refine⟨i,hi,?_⟩;rw[gdqA,zg hi,Bool.and_eq_true,decide_eq_true_iff,decide_eq_true_iff];exact h
def rnB(l:List Un)(r:Nat×Nat):Bool:=jm (λi=>decide ((l.getD i default).frm<=r.1)&&decide ((r.2:Int)<=(l.getD i default).to)) l.length
theorem u9{l:List Un}{r:Nat×Nat}:rnB l r=true↔ ∃u∈l,u.frm<=r.1∧(r.2:Int)<=u.to:=by
 unfold rnB;rw[qP];constructor
 ·rintro⟨i,hi,h⟩;rw[gdqA,zg hi,Bool.and_eq_true,decide_eq_true_iff,decide_eq_true_iff]at h;exact⟨_,List.getElem_mem hi,h⟩
 ·rintro⟨u,hu,h⟩;obtain⟨i,hi,rfl⟩:=List.getElem_of_mem hu;refine⟨i,hi,?_⟩;rw[gdqA,zg hi,Bool.and_eq_true,decide_eq_true_iff,decide_eq_true_iff];exact h
theorem KO{α:Type}{L:List α}{R:α->α->Prop}(h:L.Pairwise R){a b:α}(ha:a∈L)(hb:b∈L)(hne:a≠b):R a b∨R b a:=by
 induction L with
 |nil=>cases ha
 |cons c r ih=>
  obtain⟨h1,h2⟩:=List.pairwise_cons.1 h;rcases List.mem_cons.1 ha with ea|na
  ·rcases List.mem_cons.1 hb with eb|nb
   ·exact absurd (ea.trans eb.symm) hne
   ·rw[ea];exact .inl (h1 b nb)
  ·rcases List.mem_cons.1 hb with eb|nb
   ·rw[eb];exact .inr (h1 a na)
   ·exact ih h2 na nb
theorem YR{x:Co}{l:List Un}(h:vr x l=true):((bz (cmB x) x.col.length).all (rnB l)=true)↔cvA x l=true:=by
 have ho:=xX h;unfold cvA;rw[List.all_eq_true,Bool.not_eq_true',qq];constructor
 ·intro hr k hk;cases hc:cmB x k with
  |true=>simp
  |false=>
   obtain⟨r,hr1,r1,r2⟩:=lU hk hc;obtain⟨u,hu,u1,u2⟩:=u9.1 (hr r hr1);rw[sn.2 ⟨u,hu,oma,oma⟩];rfl
 ·intro hk r hr;obtain⟨r1,r2,r3⟩:=Qg hr;have cov: ∀k,r.1<=k->k<r.2-> ∃u∈l,u.frm<=(k:Int)∧(k:Int)<u.to:=λk h1 h2=>by
   have h3:=hk k oma;rw[r3 k h1 h2,Bool.not_false,Bool.and_true,Bool.not_eq_false']at h3;exact sn.1 h3
  obtain⟨u,hu,u1,u2⟩:=cov r.1 (nlr _) r1;refine u9.2 ⟨u,hu,u1,?_⟩
  by_cases ht:(r.2:Int)<=u.to
  ·exact ht
  ·exfalso;have hur:=ho.rg u hu;obtain⟨k,hk2⟩: ∃k:Nat,u.to=(k:Int):=⟨u.to.toNat,oma⟩
   obtain⟨v,hv,v1,v2⟩:=cov k oma oma;have hvr:=ho.rg v hv
   by_cases e:u=v
   ·subst e;omega
   ·rcases KO ho.pw hu hv e with h1|h1
    ·omega
    ·omega
def fnU(l:List Un)(c:Int):Int:=w8 (λi=>decide ((l.getD i default).frm<=c)&&decide (c<(l.getD i default).to)) l.length 0
theorem xA(l:List Un)(c:Int): -1<=fnU l c∧fnU l c<l.length:=by
 unfold fnU;rcases zk (λi=>decide ((l.getD i default).frm<=c)&&decide (c<(l.getD i default).to)) l.length with⟨i,h1,_,_,h4⟩|⟨_,h2⟩
 ·rw[h4];omega
 ·rw[h2];omega
theorem Xn{l:List Un}{c:Int}{k:Nat}(h:fnU l c=k):k<l.length∧(l.getD k default).frm<=c∧c<(l.getD k default).to:=by
 unfold fnU at h;rcases zk (λi=>decide ((l.getD i default).frm<=c)&&decide (c<(l.getD i default).to)) l.length with⟨i,h1,h2,_,h4⟩|⟨_,h2⟩
 ·rw[h4]at h;have e:i=k:=by omega
  subst e;rw[Bool.and_eq_true,decide_eq_true_iff,decide_eq_true_iff]at h2;exact⟨h1,h2⟩
 ·rw[h2]at h;omega
theorem tj{l:List Un}{c:Int}(h:fnU l c<0){i:Nat}(hi:i<l.length): ¬((l.getD i default).frm<=c∧c<(l.getD i default).to):=by
 unfold fnU at h;rcases zk (λi=>decide ((l.getD i default).frm<=c)&&decide (c<(l.getD i default).to)) l.length with⟨j,_,_,_,h4⟩|⟨h1,_⟩
 ·rw[h4]at h;omega
 ·have:=h1 i hi
  rw[Bool.and_eq_false_iff,decide_eq_false_iff_not,decide_eq_false_iff_not]at this;omega
theorem HV{x:Co}{l:List Un}(h:vr x l=true){c:Int}{k:Nat}(hk:k<l.length)(h1:(l.getD k default).frm<=c)(h2:c<(l.getD k default).to):fnU l c=k:=by
 have ho:=xX h;rcases Int.lt_or_le (fnU l c) 0 with hn|hn
 ·exact absurd ⟨h1,h2⟩ (tj hn hk)
 ·obtain⟨j,hj⟩: ∃j:Nat,fnU l c=j:=⟨(fnU l c).toNat,oma⟩
  obtain⟨j1,j2,j3⟩:=Xn hj;rw[hj];have g: ∀i (hi:i<l.length),l.getD i default=l[i]:=λi hi=>by rw[gdqA,zg hi];rfl
  rw[g k hk]at h1 h2;rw[g j j1]at j2 j3;rcases Nat.lt_trichotomy j k with e|e|e
  ·have:=List.pairwise_iff_getElem.1 ho.pw j k j1 hk e;omega
  ·omega
  ·have:=List.pairwise_iff_getElem.1 ho.pw k j hk j1 e;omega
def wdE(x:Co)(l:List Un)(w bef:Wd)(first:Bool):Int:=
 if w.text= []∨64<w.text.length then 11 else if w.col<0∨(x.col.length:Int)<=w.col∨(first=false∧w.col<bef.col) then 19 else if w.unit< -1∨(l.length:Int)<=w.unit then 20 else
  if fnU l w.col≠w.unit then 20 else if w.dec< -1∨(w.unit<0∧w.dec≠ -1)∨(first=false∧0<=w.unit∧w.unit=bef.unit∧w.dec≠bef.dec) then 2 else 0
def fL(b:List Wd)(i:Nat):Wd:=if i=0 then default else b.getD (i-1) default
def oW(x:Co)(l:List Un)(b:List Wd)(i:Nat):Int:=wdE x l (b.getD i default) (fL b i) (decide (i=0))
def cW(b:List Wd)(c:Int):Nat->Nat
 |0=>0
 |i+1=>cW b c i+if (b.getD i default).col=c then 1 else 0
def txA(x:Co)(c:Nat):Str:=((x.tok.getD 0 []).getD ((x.col.getD c []).getD 0 0).toNat default).text
def ccB(x:Co)(b:List Wd)(c:Nat):Bool:=decide (cW b c b.length=1)&&jm (λi=>decide ((b.getD i default).col=c)&&decide ((b.getD i default).text=txA x c)) b.length
def M9(x:Co)(l:List Un)(b:List Wd)(c:Nat):Int:=if 0<=fnU l c then 0 else if ccB x b c=true then 0 else 9
def pvE(x:Co)(l:List Un)(b:List Wd):Int:=
 if vaE x l≠0 then vaE x l else if we (oW x l b) 0 b.length≠0 then we (oW x l b) 0 b.length else we (M9 x l b) 0 x.col.length
structure R1 (x:Co) (l:List Un) (b:List Wd):Prop where
 co:coE x=0
 un:vr x l=true
 cv:cvA x l=true
 tx: ∀i,i<b.length->(b.getD i default).text≠ []∧(b.getD i default).text.length<=64
 cl: ∀i,i<b.length->0<=(b.getD i default).col∧(b.getD i default).col<x.col.length
 ord: ∀i,i+1<b.length->(b.getD i default).col<=(b.getD (i+1) default).col
 un2: ∀i,i<b.length->fnU l (b.getD i default).col=(b.getD i default).unit
 cc: ∀c,c<x.col.length->fnU l c<0->ccB x b c=true
theorem uS{x:Co}{l:List Un}{b:List Wd}(h:pvE x l b=0):R1 x l b:=by
 unfold pvE at h;split at h
 ·rename_i h1;exact absurd h h1
 rename_i h1;have h1:=Classical.not_not.1 h1;split at h
 ·rename_i h2;exact absurd h h2
 rename_i h2;have h2:=jr.1 (Classical.not_not.1 h2);have h3:=jr.1 h;unfold vaE at h1;split at h1
 ·cases h1
 rename_i g1;split at h1
 ·cases h1
 rename_i g2;have g2:rgB x l=true:=by simpa using g2
 unfold rgB at g2;rw[Bool.and_eq_true]at g2;have hw: ∀i,i<b.length->((b.getD i default).text≠ []∧(b.getD i default).text.length<=64)∧(0<=(b.getD i default).col∧(b.getD i default).col<x.col.length)∧(0<i->(fL b i).col<=(b.getD i default).col)∧fnU l (b.getD i default).col=(b.getD i default).unit:=λi hi=>by
  have:=h2 i hi
  unfold oW wdE at this;split at this
  ·cases this
  rename_i k1;split at this
  ·cases this
  rename_i k2;split at this
  ·cases this
  split at this
  ·cases this
  rename_i k4;refine⟨⟨λe=>k1 (.inl e),Nat.le_of_not_lt λe=>k1 (.inr e)⟩,⟨oma,oma⟩,λh0=> ?_,Classical.not_not.1 k4⟩;refine Int.not_lt.1 λhc=>k2 (.inr (.inr ⟨dqf oma,hc⟩))
 refine⟨Classical.not_not.1 g1,g2.1,g2.2,λi hi=>(hw i hi).1,λi hi=>(hw i hi).2.1,λi hi=> ?_,λi hi=>(hw i hi).2.2.2,λc hc hn=> ?_⟩
 ·have:=(hw (i+1) hi).2.2.1 oma
  unfold fL at this;rw[ine oma,Nat.add_sub_cancel]at this;exact this
 ·have:=h3 c hc
  unfold M9 at this;rw[ine oma]at this;split at this
  ·assumption
  ·cases this
theorem zI{α:Type}{L:List α}{a:α}{i:Nat}(h:i<L.length):L.getD i a∈L:=by
 rw[gdqA,zg h];exact List.getElem_mem h
theorem bU{α:Type}{L:List α}{a b:α}{i:Nat}(h:i<L.length):(L.set i b).getD i a=b:=by
 rw[gdqA,List.getElem?_set,ipo rfl,ipo h];rfl
def bgn(c:UInt8):Bool:=decide (kind c=1)||decide (kind c=3)
theorem yw{c:UInt8}(h:bgn c=true):wi c=true:=by
 unfold bgn at h;unfold wi;rw[Bool.or_eq_true]at h ⊢;rcases h with h|h
 ·exact .inl h
 ·exact .inr (by rw[h];rfl)
def tkF(f:Int)(w:Str):Tk:=⟨w,[],[],0,f,[]⟩
structure Bs where
 done:List Tk
 opn:Bool
 fl:Int
 word:Str
 jn:Bool
def Bs.fin(b:Bs):List Tk:=b.done++if b.opn=true then [tkF b.fl b.word] else []
def Bs.out(b:Bs):List Tk:=b.done++if b.opn=true then [tkF b.fl []] else []
def jfl(j:Bool)(n:Nat):Int:=if j=true∧0<n then 16 else 0
def Bs.stp(b:Bs)(c:UInt8):Bs:=
 if b.opn=true∧wi c=true then ⟨b.done,true,b.fl,b.word++ [c],b.jn⟩
 else if bgn c=true then ⟨b.fin,true,jfl b.jn b.fin.length,[c],true⟩
 else if kind c=6 then ⟨b.fin,false,0,[],false⟩
 else ⟨b.fin++ [tkF (8+jfl b.jn b.fin.length) [c]],false,0,[],true⟩
def bs0:Bs:=⟨[],false,0,[],false⟩
def bsL(s:Str):Bs:=s.foldl Bs.stp bs0
theorem iV(s:Str)(c:UInt8):bsL (s++ [c])=(bsL s).stp c:=by unfold bsL;rw[List.foldl_append];rfl
def tkN(t:Tk):Tk:=⟨t.text,t.text,t.page,t.line,t.flags,t.name⟩
def wN(s:Str):List Tk:=(bsL s).fin
def dy(s:Str):List Tk:=(wN s).map tkN
def AH(L:List Tk):Bool:=jm (λj=>decide (64<(L.getD j default).text.length)) L.length
def mj(s:Str):Int:=if AH (wN s)=true then 4 else 0
def TkG(t:Tk):Prop:=t=tkF t.flags t.text∧(((t.flags=0∨t.flags=16)∧ ∃c r,t.text=c::r∧bgn c=true∧ ∀b∈r,wi b=true)∨((t.flags=8∨t.flags=24)∧ ∃c,t.text= [c]∧bgn c=false∧kind c≠6))
structure ZL (s:Str) (b:Bs):Prop where
 cl:b.opn=false->b.word= []∧b.fl=0
 op:b.opn=true->TkG (tkF b.fl b.word)∧b.jn=true∧(b.fl=0∨b.fl=16)
 dn: ∀t∈b.done,TkG t
 len:b.fin.length<=s.length
 cat:(b.fin.map Tk.text).flatten=s.filter λc=> !decide (kind c=6)
theorem Bs.fin_ok{s:Str}{b:Bs}(h:ZL s b): ∀t∈b.fin,TkG t:=by
 intro t ht;unfold Bs.fin at ht;rcases List.mem_append.1 ht with ht|ht
 ·exact h.dn t ht
 ·split at ht
  ·rename_i ho;rw[List.mem_singleton]at ht;subst ht;exact (h.op ho).1
  ·cases ht
theorem tL{c:UInt8}(h:wi c=true):kind c≠6:=by
 unfold wi at h;simp only[Bool.or_eq_true,decide_eq_true_eq]at h;omega
theorem eQ(j:Bool)(n:Nat):jfl j n=0∨jfl j n=16:=by
 unfold jfl;split
 ·exact .inr rfl
 ·exact .inl rfl
theorem wX(s:Str)(c:UInt8):(s++ [c]).filter (λc=> !decide (kind c=6))=s.filter (λc=> !decide (kind c=6))++if kind c=6 then [] else [c]:=by
 rw[List.filter_append];congr 1
 by_cases h:kind c=6
 ·simp[h]
 ·simp[h]
theorem Ls{s:Str}{b:Bs}(h:ZL s b)(c:UInt8):ZL (s++ [c]) (b.stp c):=by
 have hf:=Bs.fin_ok h;have hl:=h.len;have hc:=h.cat;unfold Bs.stp;split
 ·rename_i g;obtain⟨g1,g2⟩:=g;obtain⟨⟨_,k1⟩,k2,k3⟩:=h.op g1;have kw: ∃e r,b.word=e::r∧bgn e=true∧ ∀x∈r,wi x=true:=by
   rcases k1 with⟨_,k⟩|⟨k,_⟩
   ·exact k
   ·exact absurd k (by have:(tkF b.fl b.word).flags=b.fl:=rfl;rw[this];omega)
  refine⟨λe=>(by cases e),λ_=>⟨⟨rfl,.inl ⟨k3,?_⟩⟩,k2,k3⟩,h.dn,?_,?_⟩
  ·obtain⟨e,r,e1,e2,e3⟩:=kw;refine⟨e,r++ [c],?_,e2,λx hx=> ?_⟩
   ·show b.word++ [c]=_;rw[e1];rfl
   ·rcases List.mem_append.1 hx with hx|hx
    ·exact e3 x hx
    ·rw[List.mem_singleton]at hx;subst hx;exact g2
  ·unfold Bs.fin at hl ⊢;simp only[g1,if_true,lap,lco,lnl]at hl ⊢;omega
  ·unfold Bs.fin at hc ⊢;rw[wX,ine (tL g2),<-hc];simp[g1,tkF]
 rename_i g;split
 ·rename_i g2;have j:=eQ b.jn b.fin.length;refine⟨λe=>(by cases e),λ_=>⟨⟨rfl,.inl ⟨j,c,[],rfl,g2,λx hx=>by cases hx⟩⟩,rfl,j⟩,hf,?_,?_⟩
  ·show (b.fin++ [_]).length<=_;simp only[lap,lco,lnl];omega
  ·show ((b.fin++ [tkF _ [c]]).map Tk.text).flatten=_;rw[wX,ine (tL (yw g2)),List.map_append,List.flatten_append,hc];rfl
 rename_i g2;have g2:bgn c=false:=by simpa using g2
 split
 ·rename_i g3;refine⟨λ_=>⟨rfl,rfl⟩,λe=>(by cases e),hf,?_,?_⟩
  ·show (b.fin++ []).length<=_;simp only[lap,lnl,lco];omega
  ·show ((b.fin++ []).map Tk.text).flatten=_;rw[lan,wX,ipo g3,hc,lan]
 ·rename_i g3;have j:=eQ b.jn b.fin.length;refine⟨λ_=>⟨rfl,rfl⟩,λe=>(by cases e),λt ht=> ?_,?_,?_⟩
  ·rcases List.mem_append.1 ht with ht|ht
   ·exact hf t ht
   ·rw[List.mem_singleton]at ht;subst ht;refine⟨rfl,.inr ⟨?_,c,rfl,g2,g3⟩⟩;show 8+jfl b.jn b.fin.length=8∨8+jfl b.jn b.fin.length=24;omega
  ·show (b.fin++ [_]++ []).length<=_;simp only[lap,lnl,lco];omega
  ·show ((b.fin++ [tkF _ [c]]++ []).map Tk.text).flatten=_;rw[lan,wX,ine g3,List.map_append,List.flatten_append,hc];rfl
theorem dJ(s:Str):ZL s (bsL s):=by
 have key: ∀n,n<=s.length->ZL (s.take n) (bsL (s.take n)):=by
  intro n
  induction n with
  |zero=>intro _;exact⟨λ_=>⟨rfl,rfl⟩,λe=>(by cases e),λt ht=>(by cases ht),nlr _,rfl⟩
  |succ n ih=>
   intro hn;rw[List.take_add_one,zg hn];show ZL (s.take n++ [s[n]]) (bsL (s.take n++ [s[n]]));rw[iV];exact Ls (ih oma) _
 have:=key s.length (nlr _)
 rwa [List.take_length]at this
theorem mn(s:Str): ∀t∈wN s,TkG t:=Bs.fin_ok (dJ s)
theorem fD(s:Str):(wN s).length<=s.length:=(dJ s).len
theorem cX(s:Str):(dy s).length<=s.length:=by unfold dy;rw[List.length_map];exact fD s
theorem TkG.ne{t:Tk}(h:TkG t):t.text≠ []:=by
 rcases h.2 with⟨_,c,r,e,_⟩|⟨_,c,e,_⟩<;>rw[e]<;>exact List.cons_ne_nil _ _
theorem aa{L:List Str}{w:Str}(h:w∈L):w.length<=L.flatten.length:=by
 induction L with
 |nil=>cases h
 |cons a r ih=>
  rw[List.flatten_cons,lap];rcases List.mem_cons.1 h with rfl|h
  ·omega
  ·have:=ih h;omega
theorem iE(s:Str){t:Tk}(ht:t∈dy s): ∃u,TkG u∧t=tkN u∧u∈wN s:=by
 unfold dy at ht;obtain⟨u,hu,rfl⟩:=List.mem_map.1 ht;exact⟨u,mn s u hu,rfl,hu⟩
theorem xH{L:List Tk}:AH L=false↔ ∀t∈L,t.text.length<=64:=by
 unfold AH;rw[qq];constructor
 ·intro h t ht;obtain⟨j,hj,rfl⟩:=List.getElem_of_mem ht
  have:=of_decide_eq_false (h j hj)
  rw[gdqA,zg hj,Option.getD_some]at this;omega
 ·intro h j hj
  have:=h (L.getD j default) (by rw[gdqA,zg hj];exact List.getElem_mem hj)
  exact dqf oma
theorem Cd{s:Str}:mj s=0↔ ∀t∈wN s,t.text.length<=64:=by
 unfold mj;rw[<-xH];cases AH (wN s)
 ·simp
 ·simp
def oZ(s:Str):Int:=if zS s≠0 then zS s else mj s
def XM(s:Str):List Str:=if oZ s=0 then (dy s).map Tk.text else []
structure Dc where
 kind:Int
 sig:Str
 tok:Int
 txt:Str
instance:Inhabited Dc:=⟨⟨0,[],0,[]⟩⟩
def dcC(d:Dc):JT:= [.int .i64 d.kind,.str d.sig,.int .i64 d.tok,.str d.txt]
def vI(l:List Dc):AV:= .sl l.length λi=>dcC (l.getD i default)
theorem sQ(l:List Dc):(vI l).flag=true:=rfl
theorem om(l:List Dc):(vI l).strip=vI l:=rfl
theorem VD{fz:Nat->Bool}{h:JN}{n:Nat}(l:List Dc):rei fz h (n+1) (vI l)=vI l:=rfl
theorem J8{fz:Nat->Bool}{h:JN}{n:Nat}(l:List Dc):frz fz h (n+1) (vI l)=vI l:=rfl
attribute [go_sem] sQ om VD J8
def zJ(x:Co)(g:Str):Int:=w8 (λj=>decide (g=x.sig.getD j [])) x.sig.length 0
def kZ(x:Co)(s:Nat)(t:Int):Int:=w8 (λk=>decide ((x.col.getD k []).getD s 0=t)) x.col.length 0
def vk(x:Co)(l:List Un)(o:Dc):Int:=fnU l (kZ x (zJ x o.sig).toNat o.tok)
def tkB(x:Co)(o:Dc):Bool:=decide (0<=zJ x o.sig)&&(decide (0<=o.tok)&&decide (o.tok<((x.tok.getD (zJ x o.sig).toNat []).length:Int)))
def cjE(o:Dc):Int:=if o.kind=2 then (if oZ o.txt≠0 then oZ o.txt else if XM o.txt= [] then 5 else 0) else 0
def ai(x:Co)(l:List Un)(o:Dc):Int:=
 if o.kind<1∨3<o.kind then 8 else if o.txt≠ []∧o.kind≠2 then 1 else if tkB x o=false then 6 else if vk x l o<0 then 20 else cjE o
def yo(x:Co)(l:List Un)(d:List Dc):Int:=if 256<d.length then 4 else we (λi=>ai x l (d.getD i default)) 0 d.length
theorem mg{x:Co}{o:Dc}(h:tkB x o=true):0<=zJ x o.sig∧(zJ x o.sig).toNat<x.sig.length∧x.sig.getD (zJ x o.sig).toNat []=o.sig∧0<=o.tok∧o.tok<((x.tok.getD (zJ x o.sig).toNat []).length:Int):=by
 unfold tkB at h;rw[Bool.and_eq_true,Bool.and_eq_true,decide_eq_true_iff,decide_eq_true_iff,decide_eq_true_iff]at h;obtain⟨h1,h2,h3⟩:=h;rcases zk (λj=>decide (o.sig=x.sig.getD j [])) x.sig.length with⟨i,g1,g2,_,g4⟩|⟨_,g2⟩
 ·have e:zJ x o.sig=i:=g4;rw[e]at h1 h3 ⊢;exact⟨h1,g1,(of_decide_eq_true g2).symm,h2,h3⟩
 ·have e:zJ x o.sig= -1:=g2;omega
theorem V7{x:Co}{s:Nat}(hs:s<x.sig.length)(hn: ∀j,j<s->x.sig.getD j []≠x.sig.getD s []):zJ x (x.sig.getD s [])=s:=
 kQ (p:=λj=>decide (x.sig.getD s []=x.sig.getD j [])) hs (λj hj=>dqf λe=>hn j hj e.symm) (dqt rfl)
theorem xJ{x:Co}{l:List Un}{o:Dc}(h:ai x l o=0):1<=o.kind∧o.kind<=3∧(o.txt= []∨o.kind=2)∧tkB x o=true∧0<=vk x l o∧cjE o=0:=by
 unfold ai at h;split at h
 ·cases h
 split at h
 ·cases h
 split at h
 ·cases h
 split at h
 ·cases h
 rename_i h1 h2 h3 h4;refine⟨oma,oma,?_,by simpa using h3,oma,h⟩
 by_cases e:o.txt= []
 ·exact .inl e
 ·exact .inr (Classical.not_not.1 λhc=>h2 ⟨e,hc⟩)
theorem sd{o:Dc}(h:cjE o=0)(hk:o.kind=2):zS o.txt=0∧mj o.txt=0∧dy o.txt≠ []∧o.txt≠ []:=by
 unfold cjE at h;rw[ipo hk]at h;split at h
 ·rename_i e;exact absurd h e
 rename_i h1;have h1:=Classical.not_not.1 h1;split at h
 ·cases h
 rename_i h2;unfold XM at h2;rw[ipo h1]at h2;have h3:dy o.txt≠ []:=λe=>h2 (by rw[e];rfl)
 unfold oZ at h1;split at h1
 ·rename_i e;exact absurd h1 e
 rename_i g;exact⟨Classical.not_not.1 g,h1,h3,λe=>h3 (by rw[e];rfl)⟩
structure Pc where
 t:Tk
 c:Int
instance:Inhabited Pc:=⟨⟨default,0⟩⟩
def pcB(x:Co)(s k:Nat):Bool:=decide (0<=(x.col.getD k []).getD s 0)
def pcT(x:Co)(s k:Nat):Pc:=⟨(x.tok.getD s []).getD ((x.col.getD k []).getD s 0).toNat default,(k:Int)⟩
def spk(x:Co)(s f:Nat):Nat->List Pc
 |0=> []
 |d+1=>spk x s f d++if pcB x s (f+d)=true then [pcT x s (f+d)] else []
structure Rw where
 p:Pc
 u:Int
 d:Int
instance:Inhabited Rw:=⟨⟨default,0,0⟩⟩
def PK(f:Int):Bool:=f.toNat.testBit 2
def jnB(f:Int):Bool:=f.toNat.testBit 4
def OS(b s:Str):Bool:=if kp b=true then !kp s&& !decide (s= [39]) else true
def mkW(pv:Option Str)(r:Rw):Wd:=⟨r.p.t.text,r.p.c,r.u,r.d,jnB r.p.t.flags&&(match pv with|none=>false|some b=>OS b r.p.t.text),PK r.p.t.flags,r.p.t.name⟩
def ZI(L:List Rw)(i:Nat):Option Str:=if i=0 then none else some (L.getD (i-1) default).p.t.text
def bsW(L:List Rw):List Wd:=(List.range L.length).map λi=>mkW (ZI L i) (L.getD i default)
theorem jU(L:List Rw):(bsW L).length=L.length:=by unfold bsW;simp
theorem ww{L:List Rw}{i:Nat}(hi:i<L.length):(bsW L).getD i default=mkW (ZI L i) (L.getD i default):=by
 unfold bsW;rw[gdqA,List.getElem?_map,List.getElem?_range hi];rfl
theorem yZ{α:Type}{L M:List α}{a:α}{i:Nat}(hi:i<L.length):(L++M).getD i a=L.getD i a:=by
 rw[gdqA,gdqA,List.getElem?_append_left hi]
theorem xB{α:Type}{L M:List α}{a:α}{i:Nat}:(L++M).getD (L.length+i) a=M.getD i a:=by
 rw[gdqA,gdqA,List.getElem?_append_right oma,Nat.add_sub_cancel_left]
theorem Z2(L:List Rw)(r:Rw):bsW (L++ [r])=bsW L++ [mkW (ZI (L++ [r]) L.length) r]:=by
 unfold bsW;rw[lap,lco,lnl,Nat.zero_add,List.range_succ,List.map_append];congr 1
 ·refine List.map_congr_left λi hi=> ?_
  rw[List.mem_range]at hi;have e1:(L++ [r]).getD i default=L.getD i default:=yZ hi;have e2:ZI (L++ [r]) i=ZI L i:=by
   unfold ZI;split
   ·rfl
   ·rw[yZ oma]
  rw[e1,e2]
 ·have e1:(L++ [r]).getD L.length default=r:=by
   have:=xB (L:=L) (M:= [r]) (a:=default) (i:=0)
   rw[Nat.add_zero]at this;rw[this];rfl
  rw[List.map_cons,List.map_nil,e1]
theorem uM(L:List Rw)(r:Rw):ZI (L++ [r]) L.length=if L.length=0 then none else some ((bsW L).getD (L.length-1) default).text:=by
 unfold ZI;split
 ·rfl
 ·rw[yZ oma,ww oma];rfl
def wl(x:Co)(l:List Un)(d:List Dc)(k:Nat):Nat->Int
 |0=> -1
 |n+1=>if vk x l (d.getD n default)=k then (n:Int) else wl x l d k n
def frN(l:List Un)(k:Nat):Nat:=(l.getD k default).frm.toNat
def toN(l:List Un)(k:Nat):Nat:=(l.getD k default).to.toNat
def zf(l:List Un)(k:Nat):Nat:=if k=0 then 0 else toN l (k-1)
def gV(x:Co)(l:List Un)(k:Nat)(o:Dc):List Pc:=
 if o.kind=1 then spk x (zJ x o.sig).toNat (frN l k) (toN l k-frN l k) else if o.kind=2 then (dy o.txt).map (λt=>⟨t,(l.getD k default).frm⟩) else []
def rwM(ps:List Pc)(u d:Int):List Rw:=ps.map λp=>⟨p,u,d⟩
def rwC(x:Co)(s f t:Nat):List Rw:=rwM (spk x s f (t-f)) (-1) (-1)
def rwU(x:Co)(l:List Un)(d:List Dc)(s k:Nat):List Rw:=
 if wl x l d k d.length<0 then rwM (spk x s (frN l k) (toN l k-frN l k)) k (-1)
 else rwM (gV x l k (d.getD (wl x l d k d.length).toNat default)) k (wl x l d k d.length)
def rwL(x:Co)(l:List Un)(d:List Dc)(s:Nat):Nat->List Rw
 |0=> []
 |k+1=>rwL x l d s k++(rwC x s (zf l k) (frN l k)++rwU x l d s k)
def rwA(x:Co)(l:List Un)(d:List Dc)(s:Nat):List Rw:=rwL x l d s l.length++rwC x s (zf l l.length) x.col.length
def esE(x:Co)(l:List Un)(d:List Dc)(s:Int):Int:=
 if vaE x l≠0 then vaE x l else if s<0∨(x.sig.length:Int)<=s then 2 else if yo x l d≠0 then yo x l d else if 1024<(rwA x l d s.toNat).length then 4 else 0
def esR(x:Co)(l:List Un)(d:List Dc)(s:Int):List Wd:=if esE x l d s=0 then bsW (rwA x l d s.toNat) else []
theorem xd(x:Co)(l:List Un)(d:List Dc)(k:Nat): ∀n,-1<=wl x l d k n∧wl x l d k n<n:=by
 intro n
 induction n with
 |zero=>exact⟨Int.le_refl _,by unfold wl;omega⟩
 |succ n ih=>
  unfold wl;split
  ·omega
  ·omega
theorem tW{x:Co}{l:List Un}{d:List Dc}{k:Nat}: ∀ {n j:Nat},wl x l d k n=j->vk x l (d.getD j default)=k:=by
 intro n
 induction n with
 |zero=>intro j h;unfold wl at h;omega
 |succ n ih=>
  intro j h;unfold wl at h;split at h
  ·rename_i g;have e:n=j:=by omega
   rw[<-e];exact g
  ·exact ih h
theorem al(x:Co)(s f:Nat): ∀d,(spk x s f d).length<=d:=by
 intro d
 induction d with
 |zero=>exact nlr _
 |succ d ih=>
  unfold spk;rw[lap];split
  ·simp only[lco,lnl];omega
  ·simp only[lnl];omega
theorem gN{x:Co}{s f:Nat}{p:Pc}: ∀ {d:Nat},p∈spk x s f d↔ ∃k,f<=k∧k<f+d∧pcB x s k=true∧p=pcT x s k:=by
 intro d
 induction d with
 |zero=>
  constructor
  ·intro h;cases h
  ·rintro⟨k,h1,h2,_⟩;omega
 |succ d ih=>
  unfold spk;rw[List.mem_append,ih];constructor
  ·rintro (⟨k,h1,h2,h3⟩|h)
   ·exact⟨k,h1,oma,h3⟩
   ·split at h
    ·rename_i g;rw[List.mem_singleton]at h;exact⟨f+d,oma,oma,g,h⟩
    ·cases h
  ·rintro⟨k,h1,h2,h3,h4⟩
   by_cases e:k<f+d
   ·exact .inl ⟨k,h1,e,h3,h4⟩
   ·have e:k=f+d:=by omega
    subst e;rw[ipo h3];exact .inr (List.mem_singleton.2 h4)
theorem wm(x:Co)(s f:Nat): ∀d,(spk x s f d).map (λp=>p.t.text)=rdG x s f d:=by
 intro d
 induction d with
 |zero=>rfl
 |succ d ih=>
  unfold spk rdG;rw[List.map_append,ih];congr 1;unfold pcB clT
  by_cases h:(x.col.getD (f+d) []).getD s 0<0
  ·rw[ine (by simpa using h),ipo h];rfl
  ·rw[ipo (by simpa using h),ine h];rfl
theorem jD(ps:List Pc)(u d:Int):(rwM ps u d).length=ps.length:=by unfold rwM;rw[List.length_map]
theorem jh{ps:List Pc}{u d:Int}{r:Rw}:r∈rwM ps u d↔r.p∈ps∧r.u=u∧r.d=d:=by
 unfold rwM;rw[List.mem_map];constructor
 ·rintro⟨p,hp,rfl⟩;exact⟨hp,rfl,rfl⟩
 ·rintro⟨h1,h2,h3⟩;exact⟨r.p,h1,by cases r;cases h2;cases h3;rfl⟩
theorem jz{x:Co}{l:List Un}(h:vr x l=true){k:Nat}(hk:k<l.length):(l.getD k default).frm=frN l k∧(l.getD k default).to=toN l k∧frN l k<toN l k∧toN l k<=x.col.length∧(l.getD k default).rds=aF x (frN l k) (toN l k):=by
 have ho:=xX h;have hm:l.getD k default∈l:=by
  rw[gdqA,zg hk];exact List.getElem_mem hk
 obtain⟨h1,h2,h3,h4⟩:=ho.rg _ hm;unfold frN toN;refine⟨oma,oma,oma,oma,h4⟩
theorem CC{x:Co}{l:List Un}(h:vr x l=true){j k:Nat}(hj:j<k)(hk:k<l.length):toN l j<frN l k:=by
 have ho:=xX h;have hp:=List.pairwise_iff_getElem.1 ho.pw j k oma hk hj;have e: ∀i (hi:i<l.length),l.getD i default=l[i]:=λi hi=>by rw[gdqA,zg hi];rfl
 obtain⟨a1,a2,_⟩:=jz h (show j<l.length by omega);obtain⟨b1,b2,_⟩:=jz h hk;rw[e j oma]at a1 a2;rw[e k hk]at b1 b2;omega
theorem aj{x:Co}{l:List Un}(h:vr x l=true){k:Nat}(hk:k<l.length):zf l k<=frN l k:=by
 unfold zf;split
 ·exact nzl _
 ·exact Nat.le_of_lt (CC h oma hk)
theorem vX{x:Co}{l:List Un}(h:vr x l=true){k:Nat}(hk:k<=l.length):zf l k<=x.col.length:=by
 unfold zf;split
 ·exact nzl _
 ·exact (jz h (show k-1<l.length by omega)).2.2.2.1
theorem xj(l:List Un)(k:Nat):zf l (k+1)=toN l k:=by unfold zf;rw[ine oma,Nat.add_sub_cancel]
theorem J6{x:Co}{l:List Un}(h:vr x l=true){k c:Nat}(hk:k<l.length)(h1:frN l k<=c)(h2:c<toN l k):fnU l (c:Int)=k:=by
 obtain⟨a1,a2,_⟩:=jz h hk;exact HV h hk oma oma
theorem tq{x:Co}{l:List Un}(h:vr x l=true){k c:Nat}(hk:k<=l.length)(h1:zf l k<=c)(h2:k<l.length->c<frN l k):fnU l (c:Int)= -1:=by
 obtain⟨g1,g2⟩:=xA l (c:Int)
 by_cases hn:fnU l (c:Int)<0
 ·omega
 exfalso;obtain⟨j,hj⟩: ∃j:Nat,fnU l (c:Int)=j:=⟨(fnU l (c:Int)).toNat,oma⟩
 obtain⟨j1,j2,j3⟩:=Xn hj;obtain⟨a1,a2,_⟩:=jz h j1;rcases Nat.lt_or_ge j k with e|e
 ·have:toN l j<=zf l k:=by
   unfold zf;rw[ine oma];rcases Nat.lt_or_ge j (k-1)with e2|e2
   ·have:=CC h e2 oma
    obtain⟨_,_,b3,_⟩:=jz h (show k-1<l.length by omega);omega
   ·have:j=k-1:=by omega
    subst this;exact nlr _
  omega
 ·have h3:=h2 oma;rcases Nat.lt_or_ge k j with e2|e2
  ·have:=CC h e2 j1
   obtain⟨_,_,b3,_⟩:=jz h (show k<l.length by omega);omega
  ·have:j=k:=by omega
   subst this;omega
def rwc(x:Co)(l:List Un)(d:List Dc)(s:Nat)(c:Nat):List Rw:=
 if fnU l (c:Int)<0 then [⟨pcT x s c,-1,-1⟩] else if (l.getD (fnU l (c:Int)).toNat default).frm=c then rwU x l d s (fnU l (c:Int)).toNat else []
def rwS(x:Co)(l:List Un)(d:List Dc)(s:Nat):Nat->List Rw
 |0=> []
 |c+1=>rwS x l d s c++rwc x l d s c
theorem dQ{x:Co}{l:List Un}(hc:cvA x l=true)(ho:CoOk x){s c:Nat}(hs:s<x.sig.length)(h:c<x.col.length)(hf:fnU l (c:Int)<0):pcB x s c=true∧clT x c s=clT x c 0∧clT x c s≠none:=by
 unfold cvA at hc;rw[Bool.not_eq_true',qq]at hc;have h1:=hc c h;rw[Bool.and_eq_false_iff,Bool.not_eq_false',Bool.not_eq_false']at h1;rcases h1 with h1|h1
 ·exfalso;unfold cvB at h1;obtain⟨i,hi,hv⟩:=qP.1 h1;rw[Bool.and_eq_true,decide_eq_true_iff,decide_eq_true_iff]at hv;exact tj hf hi hv
 ·unfold cmB at h1;rw[Bool.not_eq_true',qq]at h1;have h2:=h1 s hs;rw[Bool.or_eq_false_iff,Bool.not_eq_false',decide_eq_false_iff_not,decide_eq_true_iff]at h2;refine⟨?_,h2.2,h2.1⟩;have h3:=h2.1;unfold clT at h3;unfold pcB
  by_cases g:(x.col.getD c []).getD s 0<0
  ·rw[ipo g]at h3;exact absurd rfl h3
  ·simpa using g
theorem VP(x:Co)(s f:Nat):rwC x s f f= []:=by unfold rwC;rw[Nat.sub_self];rfl
theorem VQ{x:Co}{s f t:Nat}(h:f<=t):rwC x s f (t+1)=rwC x s f t++if pcB x s t=true then [⟨pcT x s t,-1,-1⟩] else []:=by
 unfold rwC;rw[show t+1-f=(t-f)+1 by omega];show rwM (spk x s f (t-f)++if pcB x s (f+(t-f))=true then [pcT x s (f+(t-f))] else []) (-1) (-1)=_;rw[show f+(t-f)=t by omega];unfold rwM;rw[List.map_append];congr 1;split<;>rfl
theorem BP{x:Co}{l:List Un}(d:List Dc){s:Nat}(h:vr x l=true)(hc:cvA x l=true)(ho:CoOk x)(hs:s<x.sig.length):
  ∀k,k<=l.length-> ∀m,zf l k<=m->m<=x.col.length->(k<l.length->m<=frN l k)->rwS x l d s m=rwL x l d s k++rwC x s (zf l k) m:=by
 have com: ∀k,k<=l.length-> ∀i,zf l k+i<=x.col.length->(k<l.length->zf l k+i<=frN l k)->rwS x l d s (zf l k)=rwL x l d s k->rwS x l d s (zf l k+i)=rwL x l d s k++rwC x s (zf l k) (zf l k+i):=by
  intro k hk i
  induction i with
  |zero=>
   intro h1 h2 h3;rw[Nat.add_zero,VP,lan,h3]
  |succ i ih=>
   intro h1 h2 h3;have e:=ih oma (λhk=>by have:=h2 hk;omega) h3;show rwS x l d s (zf l k+i)++rwc x l d s (zf l k+i)=_;have f:=tq h hk (c:=zf l k+i) (Nat.le_add_right _ _) (λhk=>by have:=h2 hk;omega);have hp:=dQ hc ho hs (c:=zf l k+i) oma oma;rw[e,<-Nat.add_assoc,VQ (Nat.le_add_right _ _),ipo hp.1,List.append_assoc];congr 2;unfold rwc;rw[ipo oma]
 have key: ∀k,k<=l.length->rwS x l d s (zf l k)=rwL x l d s k:=by
  intro k
  induction k with
  |zero=>intro _;rfl
  |succ k ih=>
   intro hk;have h1:=ih oma;have hpl:=aj h (show k<l.length by omega);obtain⟨a1,a2,a3,a4,_⟩:=jz h (show k<l.length by omega);have h2:=com k oma (frN l k-zf l k) oma (λ_=>by omega) h1;rw[show zf l k+(frN l k-zf l k)=frN l k by omega]at h2;have h3: ∀i,frN l k+1+i<=toN l k->rwS x l d s (frN l k+1+i)=rwL x l d s (k+1):=by
    intro i
    induction i with
    |zero=>
     intro _;show rwS x l d s (frN l k)++rwc x l d s (frN l k)=_;have f:=J6 h (show k<l.length by omega) (nlr (frN l k)) a3;unfold rwc;rw[f,ine oma,itn,ipo a1,h2];show _=rwL x l d s k++(rwC x s (zf l k) (frN l k)++rwU x l d s k);rw[List.append_assoc]
    |succ i ih2=>
     intro hi;show rwS x l d s (frN l k+1+i)++rwc x l d s (frN l k+1+i)=_;have f:=J6 h (c:=frN l k+1+i) (show k<l.length by omega) oma oma;rw[ih2 oma];unfold rwc;rw[f,ine oma,itn,ine (by rw[a1];omega),lan]
   have h4:=h3 (toN l k-(frN l k+1)) oma;rw[show frN l k+1+(toN l k-(frN l k+1))=toN l k by omega]at h4;rw[xj];exact h4
 intro k hk m h1 h2 h3
 have:=com k hk (m-zf l k) oma (λhk=>by have:=h3 hk;omega) (key k hk)
 rwa [show zf l k+(m-zf l k)=m by omega]at this
theorem BO{x:Co}{l:List Un}(d:List Dc){s:Nat}(h:vr x l=true)(hc:cvA x l=true)(ho:CoOk x)(hs:s<x.sig.length):rwS x l d s x.col.length=rwA x l d s:=
 BP d h hc ho hs l.length (nlr _) _ (vX h (nlr _)) (nlr _) (λh=>absurd h (Nat.lt_irrefl _))
def cP(p:Nat->Bool):Nat->Nat
 |0=>0
 |i+1=>cP p i+if p i=true then 1 else 0
theorem NJ(p:Nat->Bool): ∀n,cP p n<=n:=by
 intro n
 induction n with
 |zero=>exact nlr _
 |succ n ih=>unfold cP;split<;>omega
def inU(b:List Wd)(k:Int)(i:Nat):Bool:=decide ((b.getD i default).unit=k)
structure Va where
 words:List Str
 sigla:List Str
 deriving Inhabited
structure En where
 layer:Int
 frm:Int
 to:Int
 pos:Bool
 sup:List Str
 vars:List Va
 deriving Inhabited
def vaC(v:Va):JT:= [strs v.words,strs v.sigla]
def XP(vs:List Va):AV:= .sl vs.length λi=>vaC (vs.getD i default)
def enC(e:En):JT:= [.int .i64 e.layer,.int .i64 e.frm,.int .i64 e.to,.bool e.pos,strs e.sup,XP e.vars]
def ZF(l:List En):AV:= .sl l.length λi=>enC (l.getD i default)
theorem sW(L:List Va):(XP L).flag=true:=rfl
theorem oz(L:List Va):(XP L).strip=XP L:=rfl
theorem Ks{fz:Nat->Bool}{h:JN}{n:Nat}(L:List Va):frz fz h (n+1) (XP L)=XP L:=rfl
theorem VJ{fz:Nat->Bool}{h:JN}{n:Nat}(L:List Va):rei fz h (n+1) (XP L)=XP L:=rfl
theorem sR(L:List En):(ZF L).flag=true:=rfl
theorem oo(L:List En):(ZF L).strip=ZF L:=rfl
theorem J9{fz:Nat->Bool}{h:JN}{n:Nat}(L:List En):frz fz h (n+1) (ZF L)=ZF L:=rfl
theorem VE{fz:Nat->Bool}{h:JN}{n:Nat}(L:List En):rei fz h (n+1) (ZF L)=ZF L:=rfl
attribute [go_sem] sW oz Ks VJ sR oo J9 VE
theorem N7(ws:List Str)(m:Nat)(k:Nat->Str)(h:JN)(h1:ws.length<=1000000000)(h2:m<=1000000000):
  ACalls Tryz.prog 18 [strs ws,.sl m (λj=> [.str (k j)])] h (.bool (decide (ws.length=m∧ ∀i,i<ws.length->ws.getD i []=k i))) h:=by
 unfold strs
 have:=Na GF ws.length m (λj=> .s (ws.getD j [])) (λj=> .s (k j)) h (λ_ _ _=>rfl) oma oma
 simpa only[At.v,At.s.injEq] using this
theorem wI{α:Type}[Inhabited α]{a b:List α}(d:α):a=b↔a.length=b.length∧ ∀i,i<a.length->a.getD i d=b.getD i d:=by
 constructor
 ·rintro rfl;exact⟨rfl,λ_ _=>rfl⟩
 ·rintro⟨h1,h2⟩;apply List.ext_getElem h1;intro i h3 h4
  have:=h2 i h3
  rw[gdqA,gdqA,zg h3,zg h4]at this;exact this
def ZJ(t:List Str)(f g:Nat):List Str:=(t.drop f).take (g-f)
theorem Wm{t:List Str}{f g:Nat}(h1:f<=g)(h2:g<=t.length):(ZJ t f g).length=g-f:=by unfold ZJ;simp;omega
def WC(t:List Str)(e:En)(i:Nat):Int:=
 if ZD (e.vars.getD i default).words≠0 then 11 else if (e.vars.getD i default).words=ZJ t e.frm.toNat e.to.toNat then 9 else
  if jm (λj=>decide ((e.vars.getD i default).words=(e.vars.getD j default).words)) i=true then 7 else if (e.vars.getD i default).sigla.length=0 then 5 else 0
def cnt(names:List Str)(gs:List Gr)(e:En):Nat->List Int
 |0=>WV (List.replicate 32 0) (aw names gs e.sup)
 |i+1=>WV (cnt names gs e i) (aw names gs (e.vars.getD i default).sigla)
def Cj(C:List Int):Bool:=jm (λi=>decide (1<C.getD i 0)) C.length
def Dq(t:List Str)(e:En):Prop:=e.layer<0∨16<=e.layer∨e.frm<0∨e.to<e.frm∨(t.length:Int)<e.to
instance (t:List Str) (e:En):Decidable (Dq t e):=by unfold Dq;infer_instance
def NQ(names:List Str)(gs:List Gr)(t:List Str)(e:En):Int:=
 if sgE names gs≠0 then 1 else if 4096<t.length then 4 else if ZD t≠0 then 11 else if Dq t e then 2 else
  if 0<e.sup.length∧e.pos=false then 1 else if e.vars.length=0 then 5 else
   if we (WC t e) 0 e.vars.length≠0 then we (WC t e) 0 e.vars.length else
    if mU names gs e.sup≠0 then mU names gs e.sup else
     if we (λi=>mU names gs (e.vars.getD i default).sigla) 0 e.vars.length≠0 then we (λi=>mU names gs (e.vars.getD i default).sigla) 0 e.vars.length else
      if Cj (cnt names gs e e.vars.length)=true then 17 else 0
theorem fmI(l:List Int):List.flatMap (λi=> [AV.int .i64 (l.getD i 0)]) (List.range l.length)=qM l:=by
 induction l with
 |nil=>rfl
 |cons a l ih=>
  rw[lco,List.range_succ_eq_map,List.flatMap_cons,List.flatMap_map];show AV.int .i64 a::List.flatMap (λi=> [AV.int .i64 (l.getD i 0)]) (List.range l.length)=_;rw[ih];rfl
theorem KN{p:Nat->Bool}{n:Nat}{x:Int}:x∈tZ p n↔ ∃k:Nat,k<n∧p k=true∧x=k:=by
 unfold tZ;constructor
 ·intro h;obtain⟨k,hk,rfl⟩:=List.mem_map.1 h;obtain⟨h1,h2⟩:=List.mem_filter.1 hk;exact⟨k,List.mem_range.1 h1,h2,rfl⟩
 ·rintro⟨k,h1,h2,rfl⟩;exact List.mem_map.2 ⟨k,List.mem_filter.2 ⟨List.mem_range.2 h1,h2⟩,rfl⟩
def pf(names:List Str)(gs:List Gr)(e:En):Nat->List Int×Bool
 |0=>(aw names gs e.sup,false)
 |i+1=>(tZ (λk=>decide ((k:Int)∈(pf names gs e i).1)||decide ((k:Int)∈aw names gs (e.vars.getD i default).sigla)) 64,(pf names gs e i).2||(pf names gs e i).1.any λx=>decide (x∈aw names gs (e.vars.getD i default).sigla))
theorem ZN(names:List Str)(gs:List Gr)(e:En)(i:Nat):pf names gs e (i+1)=(tZ (λk=>decide ((k:Int)∈(pf names gs e i).1)||decide ((k:Int)∈aw names gs (e.vars.getD i default).sigla)) 64,(pf names gs e i).2||(pf names gs e i).1.any λx=>decide (x∈aw names gs (e.vars.getD i default).sigla)):=rfl
theorem Z4(L:List Int): ∀(C:List Int) (j:Nat),L.Nodup->(∀x∈L,0<=x∧x<C.length)->j<C.length->(WV C L).getD j 0=C.getD j 0+if (j:Int)∈L then 1 else 0:=by
 induction L with
 |nil=>intro C j _ _ _;simp[WV]
 |cons n L ih=>
  intro C j hn hL hj;obtain⟨h1,h2⟩:=List.nodup_cons.1 hn;have hb:=hL n (by simp);show (WV (C.set n.toNat (C.getD n.toNat 0+1)) L).getD j 0=_;rw[ih _ j h2 (λx hx=>by rw[List.length_set];exact hL x (by simp[hx])) (by rw[List.length_set];exact hj)]
  by_cases e:(j:Int)=n
  ·have e2:n.toNat=j:=by omega
   have e3: ¬(j:Int)∈L:=by rw[e];exact h1
   rw[ine e3,ipo (by rw[e];simp),e2]
   have:(C.set j (C.getD j 0+1)).getD j 0=C.getD j 0+1:=by
    rw[gdqA,List.getElem?_set_self hj];rfl
   rw[this];omega
  ·have e2: ¬n.toNat=j:=by omega
   have:(C.set n.toNat (C.getD n.toNat 0+1)).getD j 0=C.getD j 0:=by
    rw[gdqA,List.getElem?_set_ne e2,<-gdqA]
   rw[this];congr 1;simp[e]
theorem nA(p:Nat->Bool)(n:Nat):(tZ p n).Nodup:=by
 unfold tZ;rw[List.Nodup,List.pairwise_map];refine List.Pairwise.imp ?_ (List.Pairwise.filter _ List.nodup_range);intro a b hab hc;exact hab (by have hx:(a:Int)=(b:Int):=hc;omega)
theorem aW(names:List Str)(gs:List Gr)(sg:List Str):(aw names gs sg).Nodup:=by
 unfold aw;split
 ·exact nA _ _
 ·exact List.nodup_nil
structure M5 (A:List Int) (B:Bool) (C:List Int):Prop where
 len:C.length=32
 rng: ∀x∈A,0<=x∧x<32
 mem: ∀k:Nat,k<32->((k:Int)∈A↔1<=C.getD k 0)
 nn: ∀k:Nat,k<32->0<=C.getD k 0
 tw:B=true↔ ∃k:Nat,k<32∧1<C.getD k 0
theorem lE{A O A' C:List Int}{B:Bool}(h:M5 A B C)(ho:O.Nodup)(hr: ∀x∈O,0<=x∧x<32)(hA: ∀x,x∈A'↔x∈A∨x∈O):M5 A' (B||A.any λx=>decide (x∈O)) (WV C O):=by
 have hl:=h.len;have hg:=λ(k:Nat) (hk:k<32)=>Z4 O C k ho (λx hx=>by have:=hr x hx;omega) oma
 refine⟨by rw[Z5,hl],λx hx=> ?_,λk hk=> ?_,λk hk=> ?_,?_⟩
 ·rcases (hA x).1 hx with hx|hx
  ·exact h.rng x hx
  ·exact hr x hx
 ·rw[hA,h.mem k hk,hg k hk]
  have:=h.nn k hk
  by_cases e:(k:Int)∈O
  ·rw[ipo e];exact⟨λ_=>by omega,λ_=> .inr e⟩
  ·rw[ine e];constructor
   ·rintro (h1|h1)
    ·omega
    ·exact absurd h1 e
   ·intro h1;exact .inl oma
 ·rw[hg k hk]
  have:=h.nn k hk
  split<;>omega
 ·rw[Bool.or_eq_true,h.tw,List.any_eq_true];constructor
  ·rintro (⟨k,hk,h1⟩|⟨x,hx,h1⟩)
   ·refine⟨k,hk,?_⟩;rw[hg k hk];split<;>omega
   ·have h1:=of_decide_eq_true h1;have hx2:=h.rng x hx;have e:((x.toNat:Nat):Int)=x:=by omega
    refine⟨x.toNat,oma,?_⟩;rw[hg _ oma,e,ipo h1]
    have:=(h.mem x.toNat oma).1 (by rw[e];exact hx)
    omega
  ·rintro⟨k,hk,h1⟩;rw[hg k hk]at h1
   by_cases e:(k:Int)∈O
   ·rw[ipo e]at h1;exact .inr ⟨(k:Int),(h.mem k hk).2 oma,dqt e⟩
   ·rw[ine e]at h1;exact .inl ⟨k,hk,oma⟩
theorem AB:M5 [] false (List.replicate 32 0):=by
 have g: ∀k:Nat,k<32->(List.replicate 32 (0:Int)).getD k 0=0:=λk hk=>by
  rw[gdqA,List.getElem?_replicate,ipo hk];rfl
 refine⟨by simp,λx hx=>by simp at hx,λk hk=> ?_,λk hk=> ?_,?_⟩
 ·rw[g k hk];simp
 ·rw[g k hk];omega
 ·constructor
  ·intro h;cases h
  ·rintro⟨k,hk,h1⟩;rw[g k hk]at h1;omega
theorem XV(names:List Str)(gs:List Gr)(e:En): ∀i,M5 (pf names gs e i).1 (pf names gs e i).2 (cnt names gs e i):=by
 have hO:=λsg=>yC (@JI names gs sg)
 intro i
 induction i with
 |zero=>
  have:=lE (A':=aw names gs e.sup) AB (aW names gs e.sup) (hO e.sup) (λx=>by simp)
  exact this
 |succ i ih=>
  rw[ZN];unfold cnt;refine lE ih (aW _ _ _) (hO _) (λx=> ?_);rw[KN];constructor
  ·rintro⟨k,hk,h1,rfl⟩;simpa using h1
  ·intro hx;have hb:0<=x∧x<32:=by
    rcases hx with hx|hx
    ·exact ih.rng x hx
    ·exact hO _ x hx
   have e:((x.toNat:Nat):Int)=x:=by omega
   refine⟨x.toNat,oma,?_,e.symm⟩;simp only[e];simpa using hx
theorem dz(names:List Str)(gs:List Gr)(e:En)(i:Nat):Cj (cnt names gs e i)=(pf names gs e i).2:=by
 have h:=XV names gs e i;unfold Cj;rw[h.len,Bool.eq_iff_iff,h.tw,qP];simp only[decide_eq_true_eq]
def inV(names:List Str)(gs:List Gr)(e:En)(src:Int)(i:Nat):Bool:=decide (src∈aw names gs (e.vars.getD i default).sigla)
def vIx(names:List Str)(gs:List Gr)(e:En)(src:Int):Int:=w8 (inV names gs e src) e.vars.length 0
def iR(a b:En):Bool:=decide (a.frm<b.frm)||decide (a.frm=b.frm)&&decide (a.to<b.to)
end RC
end
section
open Go Go.Proofs AF
end
section
open Go Go.Proofs AF HY LN
namespace RC
end RC
end
section
namespace RC
variable {α : Type}
def aC(lt:α->α->Bool)(x:α):List α->List α
 | []=> [x]
 |y::r=>if lt x y=true then y::aC lt x r else x::y::r
def fq(lt:α->α->Bool):List α->List α->List α
 |acc,[]=>acc
 |acc,x::r=>fq lt (aC lt x acc) r
def Dw(lt:α->α->Bool):Prop:= ∀a b c,lt a b=false->lt b c=false->lt a c=false
def Asy(lt:α->α->Bool):Prop:= ∀a b,lt a b=true->lt b a=false
def Dh(lt:α->α->Bool)(l:List α):Prop:=l.Pairwise λa b=>lt a b=false
theorem KE{lt:α->α->Bool}{x:α}: ∀ {l:List α} {z:α},z∈aC lt x l↔z=x∨z∈l:=by
 intro l
 induction l with
 |nil=>intro z;simp[aC]
 |cons y r ih=>
  intro z;unfold aC;split
  ·simp only[List.mem_cons,ih];constructor
   ·rintro (h|h|h)
    ·exact .inr (.inl h)
    ·exact .inl h
    ·exact .inr (.inr h)
   ·rintro (h|h|h)
    ·exact .inr (.inl h)
    ·exact .inl h
    ·exact .inr (.inr h)
  ·simp
theorem y8{lt:α->α->Bool}(hn:Dw lt)(ha:Asy lt){x:α}: ∀ {l:List α},Dh lt l->Dh lt (aC lt x l):=by
 intro l
 induction l with
 |nil=>intro _;exact List.pairwise_singleton _ _
 |cons y r ih=>
  intro h;obtain⟨h1,h2⟩:=List.pairwise_cons.1 h;unfold aC
  by_cases g:lt x y=true
  ·rw[ipo g];refine List.pairwise_cons.2 ⟨λz hz=> ?_,ih h2⟩;rcases KE.1 hz with rfl|hz
   ·exact ha _ _ g
   ·exact h1 z hz
  ·rw[ine g];have g:lt x y=false:=by simpa using g
   refine List.pairwise_cons.2 ⟨λz hz=> ?_,h⟩;rcases List.mem_cons.1 hz with rfl|hz
   ·exact g
   ·exact hn _ _ _ g (h1 z hz)
theorem tM{lt:α->α->Bool}{x:α}{l:List α}(h: ∀z∈l,lt x z=false):aC lt x l=x::l:=by
 cases l with
 |nil=>rfl
 |cons y r=>
  unfold aC;rw[ine (by rw[h y (by simp)];simp)]
theorem gx{lt:α->α->Bool}(hn:Dw lt)(p:α->Bool)(x:α): ∀ {l:List α},Dh lt l->(aC lt x l).filter p=if p x=true then aC lt x (l.filter p) else l.filter p:=by
 intro l
 induction l with
 |nil=>intro _;unfold aC;by_cases h:p x=true<;>simp[h,aC]
 |cons y r ih=>
  intro h;obtain⟨h1,h2⟩:=List.pairwise_cons.1 h
  by_cases g:lt x y=true
  ·have e:aC lt x (y::r)=y::aC lt x r:=by rw[aC,ipo g]
   rw[e,List.filter_cons,List.filter_cons,ih h2]
   by_cases hy:p y=true
   ·rw[ipo hy,ipo hy]
    by_cases hx:p x=true
    ·rw[ipo hx,ipo hx,aC,ipo g]
    ·rw[ine hx,ine hx]
   ·rw[ine hy,ine hy]
  ·have e:aC lt x (y::r)=x::y::r:=by rw[aC,ine g]
   have g:lt x y=false:=by simpa using g
   rw[e]
   by_cases hx:p x=true
   ·rw[ipo hx,List.filter_cons,ipo hx,tM];intro z hz;rcases List.mem_cons.1 (List.mem_filter.1 hz).1 with rfl|hz
    ·exact g
    ·exact hn _ _ _ g (h1 z hz)
   ·rw[ine hx,List.filter_cons,ine hx]
theorem dT{lt:α->α->Bool}(hn:Dw lt)(ha:Asy lt)(p:α->Bool): ∀(l acc:List α),Dh lt acc->(fq lt acc l).filter p=fq lt (acc.filter p) (l.filter p):=by
 intro l
 induction l with
 |nil=>intro acc _;rfl
 |cons x r ih=>
  intro acc h;rw[fq,ih _ (y8 hn ha h),gx hn p x h,List.filter_cons]
  by_cases hx:p x=true
  ·rw[ipo hx,ipo hx,fq]
  ·rw[ine hx,ine hx]
theorem fu{lt:α->α->Bool}(hn:Dw lt)(ha:Asy lt): ∀(l acc:List α),Dh lt acc->Dh lt (fq lt acc l):=by
 intro l
 induction l with
 |nil=>intro acc h;exact h
 |cons x r ih=>intro acc h;exact ih _ (y8 hn ha h)
end RC
end
section
namespace RC
variable {α : Type}
end RC
end
section
open Go Go.Proofs AF HY LN
namespace RC
theorem wR{a b:En}:iR a b=true↔a.frm<b.frm∨a.frm=b.frm∧a.to<b.to:=by
 unfold iR;simp[Bool.or_eq_true,Bool.and_eq_true]
theorem xy{a b:En}:iR a b=false↔b.frm<a.frm∨a.frm=b.frm∧b.to<=a.to:=by
 have:= @wR a b
 cases h:iR a b with
 |true=>rw[h]at this;simp only[true_iff]at this;simp only[Bool.true_eq_false,false_iff];omega
 |false=>rw[h]at this;simp only[Bool.false_eq_true,false_iff]at this;simp only[true_iff];omega
theorem iT:Dw iR:=by
 intro a b c h1 h2;rw[xy]at*;omega
theorem iS:Asy iR:=by
 intro a b h;rw[wR]at h;rw[xy];omega
def Dv(l:List En):List En:=(fq iR [] l).reverse
def S3(names:List Str)(gs:List Gr)(src:Int)(e:En):Bool:=decide (0<=vIx names gs e src)
def ofE(names:List Str)(gs:List Gr)(l:List En)(src:Int):List En:=(Dv l).filter (S3 names gs src)
theorem tN{α:Type}{lt:α->α->Bool}{x:α}: ∀l:List α,(aC lt x l).Perm (x::l):=by
 intro l
 induction l with
 |nil=>exact List.Perm.refl _
 |cons y r ih=>
  unfold aC;split
  ·exact (List.Perm.cons y ih).trans (List.Perm.swap x y r)
  ·exact List.Perm.refl _
theorem nZ{α:Type}{lt:α->α->Bool}: ∀l acc:List α,(fq lt acc l).Perm (acc++l):=by
 intro l
 induction l with
 |nil=>intro acc;rw[lan];exact List.Perm.refl _
 |cons x r ih=>
  intro acc;refine (ih _).trans ((List.Perm.append_right r (tN acc)).trans ?_);exact (List.perm_middle (a:=x) (l₁:=acc) (l₂:=r)).symm
theorem fy(l:List En):(Dv l).Perm l:=(List.reverse_perm _).trans (by simpa using nZ (lt:=iR) l [])
theorem iq(l:List En):(Dv l).Pairwise λa b=>iR b a=false:=by
 unfold Dv;rw[List.pairwise_reverse];exact fu iT iS l [] List.Pairwise.nil
def yT(a b:En):Bool:=decide (b.frm<a.to)||decide (a.frm=b.frm)&&decide (a.to=b.to)
def vP:List En->Bool
 |a::b::r=>yT a b||vP (b::r)
 |_=>false
theorem se(L:List En):vP L=true↔ ∃i,i+1<L.length∧yT (L.getD i default) (L.getD (i+1) default)=true:=by
 induction L with
 |nil=>simp[vP]
 |cons a L ih=>
  cases L with
  |nil=>simp[vP]
  |cons b r=>
   rw[vP,Bool.or_eq_true,ih];constructor
   ·rintro (h|⟨i,h1,h2⟩)
    ·exact⟨0,by simp,h⟩
    ·exact⟨i+1,by simpa using h1,h2⟩
   ·rintro⟨i,h1,h2⟩;cases i with
    |zero=>exact .inl h2
    |succ i=>exact .inr ⟨i,by simpa using h1,h2⟩
def iN(names:List Str)(gs:List Gr)(l:List En):Bool:=jm (λs=>vP (ofE names gs l (s:Int))) names.length
theorem aT{a:En}{r:List En}(h:vP (a::r)=false):vP r=false:=by
 cases r with
 |nil=>rfl
 |cons b r=>rw[vP,Bool.or_eq_false_iff]at h;exact h.2
theorem QP{L:List En}(hs:L.Pairwise λa b=>iR b a=false)(hc:vP L=false):L.Pairwise λa b=>iR a b=true:=by
 induction L with
 |nil=>exact List.Pairwise.nil
 |cons a r ih=>
  obtain⟨h1,h2⟩:=List.pairwise_cons.1 hs;have h3:=ih h2 (aT hc);refine List.pairwise_cons.2 ⟨?_,h3⟩;cases r with
  |nil=>intro z hz;cases hz
  |cons b r=>
   have hab:iR a b=true:=by
    rw[vP,Bool.or_eq_false_iff]at hc;have h5:=hc.1;unfold yT at h5;rw[Bool.or_eq_false_iff,Bool.and_eq_false_imp,decide_eq_false_iff_not,decide_eq_true_iff,decide_eq_false_iff_not]at h5;have h4:=h1 b (by simp);rw[xy]at h4;rw[wR];obtain⟨h5,h6⟩:=h5
    by_cases e:a.frm=b.frm
    ·have:=h6 e;omega
    ·omega
   intro z hz;rcases List.mem_cons.1 hz with rfl|hz
   ·exact hab
   ·have h6:=(List.pairwise_cons.1 h3).1 z hz;rw[wR]at*;omega
theorem Jp{L:List En}(hc:vP L=false){i:Nat}(hi:i+1<L.length):(L.getD i default).to<=(L.getD (i+1) default).frm:=by
 cases h:yT (L.getD i default) (L.getD (i+1) default)with
 |true=>rw[(se L).2 ⟨i,hi,h⟩]at hc;cases hc
 |false=>
  unfold yT at h;rw[Bool.or_eq_false_iff,decide_eq_false_iff_not]at h;omega
theorem nE(names:List Str)(gs:List Gr)(l:List En)(src:Int):(ofE names gs l src).Pairwise λa b=>iR b a=false:=List.Pairwise.filter _ (iq l)
theorem wu{names:List Str}{gs:List Gr}{l:List En}(h:iN names gs l=false){s:Nat}(hs:s<names.length):vP (ofE names gs l (s:Int))=false:=
 qq.1 h s hs
structure Db (names:List Str) (gs:List Gr) (t:List Str) (l:List En):Prop where
 sg:sgE names gs=0
 n:l.length<=4096
 ck: ∀e∈l,NQ names gs t e=0
 cl:iN names gs l=false
structure Nj (names:List Str) (gs:List Gr) (t:List Str) (e:En):Prop where
 sg:sgE names gs=0
 tn:t.length<=4096
 tw:ZD t=0
 lay:0<=e.layer∧e.layer<16
 rng:0<=e.frm∧e.frm<=e.to∧e.to<=t.length
 sp:0<e.sup.length->e.pos=true
 ne:e.vars.length≠0
 va: ∀i,i<e.vars.length->WC t e i=0
 es:mU names gs e.sup=0
 ev: ∀i,i<e.vars.length->mU names gs (e.vars.getD i default).sigla=0
 tc:(pf names gs e e.vars.length).2=false
theorem sb{names:List Str}{gs:List Gr}{t:List Str}{e:En}:NQ names gs t e=0↔Nj names gs t e:=by
 unfold NQ;constructor
 ·intro h;split at h
  ·cases h
  rename_i h1;split at h
  ·cases h
  rename_i h2;split at h
  ·cases h
  rename_i h3;split at h
  ·cases h
  rename_i h4;split at h
  ·cases h
  rename_i h5;split at h
  ·cases h
  rename_i h6;split at h
  ·rename_i h7;exact absurd h h7
  rename_i h7;split at h
  ·rename_i h8;exact absurd h h8
  rename_i h8;split at h
  ·rename_i h9;exact absurd h h9
  rename_i h9;split at h
  ·cases h
  rename_i h10;unfold Dq at h4;refine⟨Classical.not_not.1 h1,oma,Classical.not_not.1 h3,oma,oma,λh=> ?_,h6,jr.1 (Classical.not_not.1 h7),Classical.not_not.1 h8,jr.1 (Classical.not_not.1 h9),?_⟩
  ·cases hp:e.pos with
   |true=>rfl
   |false=>exact absurd ⟨h,hp⟩ h5
  ·rw[dz]at h10;simpa using h10
 ·rintro⟨h1,h2,h3,h4,h5,h6,h7,h8,h9,h10,h11⟩;have hr: ¬Dq t e:=by unfold Dq;omega
  rw[ine (λhc=>hc h1),ine oma,ine (λhc=>hc h3),ine hr,ine (by rintro⟨a,b⟩;rw[h6 a]at b;cases b),ine h7,ine (λhc=>hc (zZ (f:=WC t e) h8)),ine (λhc=>hc h9),
   ine (λhc=>hc (zZ (f:=λi=>mU names gs (e.vars.getD i default).sigla) h10)),ine (by rw[dz,h11];simp)]
section
variable {k v w : Nat} {h : JN} {o o' : AObj} {ty : TypeId} {cs : JT}
theorem cellsOf_setm(hk:k<h.length):cellsOf (qt k h (.mem w ty cs)) k v=if w=v then some cs else none:=by
 have:=vu (l:= []) (v:=v) (w:=w) (ty:=ty) (cs:=cs) hk
 simpa using this
theorem setO_setm:qt k (qt k h o) o'=qt k h o':=kv
end
attribute [go_sem] cellsOf_setm setO_setm
theorem KJ{k v:Nat}{h:JN}{ty:TypeId}{cs:JT}(hl: ∀n,∀c∈cs,qR n c=true): ∀o∈qt k h (.mem v ty cs),o∈h∨lowO h.length o:=by
 intro o ho;rcases jk ho with h1|rfl
 ·exact .inl h1
 ·exact .inr (λc hc=>hl _ c hc)
end RC
end
section
open Go Go.Proofs AF HY LN
namespace AF
theorem Wk.cells{t:JT}{h:JN}{j v:Nat}{ty:TypeId}{cs cs':JT}(hj:qu j h=some (.mem v ty cs))(hc:wO cs cs'):Wk t h t (qt j h (.mem v ty cs')):=by
 intro N w σ a H;have hjl:j<σ.length:=by rw[H.hr.len];exact zh hj
 have ho:=zg hjl;obtain⟨m1,m2,b,arr,m3,m4,m5,m6,m7,m8⟩:=H.hr.obj j _ _ hj ho;have q:=H.hr.recell (cs':=cs') hj ho m3 m4 m5 (by rw[hc.length];exact m6) (λi x hi hx=>m7 i x (by rw[<-hc.length];exact hi) hx) (λi c x hi hx=>by
  obtain⟨c0,h1,h2⟩:=hc.get i c hi
  exact h2 _ _ _ (m8 i c0 x h1 hx))
 exact⟨σ,⟨q,H.sz,H.tm,H.df⟩,Ext.refl _ _⟩
end AF
namespace RC
end RC
end
