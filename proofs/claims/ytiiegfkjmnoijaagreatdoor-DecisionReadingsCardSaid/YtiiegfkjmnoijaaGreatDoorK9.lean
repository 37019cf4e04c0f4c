import Derived.Test.YtiiegfkjmnoijaaGreatDoorK8
import Derived.Test.YtiiegfkjmnoijaaGreatDoorK3
import Derived.Test.YtiiegfkjmnoijaaGreatDoorK5
import Derived.Test.YtiiegfkjmnoijaaGreatDoorProg
import Derived.Test.YtiiegfkjmnoijaaGreatDoorK4
import Derived.Below
import Derived.Test.YtiiegfkjmnoijaaGreatDoorK1
import Derived.Lib.AppendIntMem
import Derived.Stop.LaidErr
import Derived.Lib.ItoaLen
set_option linter.all false
set_option maxHeartbeats 64000000
set_option maxRecDepth 100000
section
open Go Go.Proofs AF HY
namespace HY
theorem Rn(c:UInt8)(h:up):ACalls Tryz.prog 187 [.int .u8 (c.toNat:Int)] h (.bool (spc c)) h:=by
 refine qx E3 (by simp) ?_;simp only[lco,lnl,Nat.reduceAdd,Nat.reduceSub,List.replicate,lca,lna,lan];simp (disch:=omega) only[C2,go_sem]
 repeat' first|(refine qH (x9 c _) ?_ ?_;exact flk;simp (disch:=omega) only[go_sem])|exact tF
def vD(s:List UInt8):AV:= .sl s.length λi=> [.int .u8 ((s.getD i 0).toNat:Int)]
def xX(p:UInt8->Bool):List UInt8->Nat->Int
 | [],_=> -1
 |c::r,i=>if p c=true then i else xX p r (i+1)
theorem rz(p:UInt8->Bool): ∀(s:List UInt8) (i:Nat),(0<=xX p s i↔s.any p=true)∧ -1<=xX p s i:=by
 intro s
 induction s with
 |nil=>intro i;simp[xX]
 |cons c r ih=>
  intro i
  by_cases hc:p c=true
  ·have e:xX p (c::r) i=i:=ipo hc;rw[e,List.any_cons,hc];simp
   try omega
  ·have e:xX p (c::r) i=xX p r (i+1):=ine hc;rw[e,List.any_cons];have hc':p c=false:=by simpa using hc
   rw[hc',Bool.false_or];exact ih (i+1)
theorem ry(p:UInt8->Bool)(s:List UInt8)(i:Nat):decide (0<=xX p s i)=s.any p:=by
 rw[Bool.eq_iff_iff,decide_eq_true_eq];exact (rz p s i).1
theorem Rr(s:List UInt8)(p:UInt8->Bool)(F:Nat)(h:up)(hs:s.length<=1000000000)(hp: ∀(c:UInt8) (h:up),ACalls Tryz.prog F [.int .u8 (c.toNat:Int)] h (.bool (p c)) h):ACalls Tryz.prog 249 [vD s,.fn (.func F) [] []] h (.int .i64 (xX p s 0)) h:=by
 refine qx FC (by simp) ?_;simp only[lco,lnl,Nat.reduceAdd,Nat.reduceSub,List.replicate,lca,lna,lan];simp (disch:=omega) only[Du,vD,go_sem];refine qr (T:=λi:Nat=>qX 19 [(0,vD s),(1,.fn (.func F) [] []),(6,vD s),(7,.int .i64 s.length),(8,.int .i64 i)]) (H:=λ_=>h) (inv:=λi=>i<=s.length∧xX p s 0=xX p (s.drop i) i) (m:=λi=>s.length-i) 0 ⟨oma,by simp⟩ (Wk.temps ?_) ?_
 ·(simp only[vD,qX,List.foldl,go_sem,qg,qc,qa,qf];try exact tS)
 ·rintro i ⟨i1,i2⟩ K hK;rw[i2]
  by_cases hi:i<s.length
  ·have e:s.drop i=s.getD i 0::s.drop (i+1):=by rw[List.drop_eq_getElem_cons hi];simp[gdqA,hi]
   rw[e]at i2 ⊢;simp only[xX]at i2 ⊢;have hpc:=λh=>hp (s.getD i 0) h
   cases hb:p (s.getD i 0)with
   |true=>
    rw[hb]at hpc;simp (disch:=omega) only[qX,List.foldl,vD,go_sem]
    repeat' first|(refine qE (hpc _) ?_;simp (disch:=omega) only[go_sem,qn])|(apply qe;exact rvk;simp only[go_sem];first|exact qi|apply qh)|(with_reducible first|intro _|apply aiA)|exact clz
   |false=>
    rw[hb]at hpc i2;simp (disch:=omega) only[qX,List.foldl,vD,go_sem]
    repeat' first|(refine qE (hpc _) ?_;simp (disch:=omega) only[go_sem,qn])|(apply qe;exact rvk;simp only[go_sem];apply qh)|(with_reducible first|intro _|apply aiA)|exact clz
    refine hK _ _ (i+1) ⟨oma,by rw[i2];simp⟩ oma (Wk.temps ?_)
    (simp only[vD,qX,List.foldl,go_sem,qg,qc,qa,qf];try (repeat' first|(with_reducible apply aiA)|(apply qh;omega)|(apply qd;rfl)|exact qi))
  ·have e:i=s.length:=by omega
   subst e;rw[List.drop_length];simp (disch:=omega) only[qX,List.foldl,vD,go_sem]
   repeat' first|exact tF|(with_reducible first|intro _|apply aiA)|exact clz
theorem Rm(s:List UInt8)(p:UInt8->Bool)(F:Nat)(h:up)(hs:s.length<=1000000000)(hp: ∀(c:UInt8) (h:up),ACalls Tryz.prog F [.int .u8 (c.toNat:Int)] h (.bool (p c)) h):ACalls Tryz.prog 186 [vD s,.fn (.func F) [] []] h (.bool (s.any p)) h:=by
 rw[<-ry p s 0];refine qx E2 (by simp) ?_;simp only[lco,lnl,Nat.reduceAdd,Nat.reduceSub,List.replicate,lca,lna,lan];simp (disch:=omega) only[C0,vD,go_sem]
 repeat' first|(refine qH (Rr s p F _ hs hp) ?_ ?_;exact flk;simp (disch:=omega) only[go_sem])|exact tF
theorem t88(s:List UInt8)(h:up)(hs:s.length<=1000000000):ACalls Tryz.prog 134 [.str s] h (.bool (km s)) h:=by
 obtain⟨c,hc⟩:=tT (zR s)
 have h104: ∀h:up,ACalls Tryz.prog 181 [.str s] h (.int .i64 c) h:=λh=>by rw[hc];exact NA s h hs
 have hw:km s=(decide (0<s.length)&&decide (s.length<=64)&&decide (c=0)&&(decide (kind (ch s 0)=1)||decide (kind (ch s 0)=3))&& !(s.any spc)):=by rw[hc];rfl
 rw[hw]
 by_cases g1:0<s.length
 ·have k1:(s= [])=False:=eqf (by intro e;rw[e]at g1;simp at g1)
  by_cases g2:s.length<=64
  ·have k2:(64<(s.length:Int))=False:=eqf oma
   by_cases g3:c=0
   ·refine qx gV (by simp) ?_;simp only[lco,lnl,Nat.reduceAdd,Nat.reduceSub,List.replicate,lca,lna,lan];simp (disch:=omega) only[pr,k1,k2,g3,go_sem]
    repeat' first|((first|refine qH (x9 _ _) ?_ ?_|refine qH (Rm s spc 187 _ hs Rn) ?_ ?_);exact flk;simp (disch:=omega) only[go_sem])|(refine qL (λe=>⟨?_,h104 _⟩) ?_;exact flk;simp (disch:=omega) only[g3,jU,go_sem])|(apply qe;exact rvk;simp only[go_sem];apply qd)|(with_reducible first|intro _|apply aiA)|exact clz
    all_goals (generalize s.any spc=b;grind)
   ·refine qx gV (by simp) ?_;simp only[lco,lnl,Nat.reduceAdd,Nat.reduceSub,List.replicate,lca,lna,lan];simp (disch:=omega) only[pr,k1,k2,go_sem]
    repeat' first|(refine qL (λe=>⟨?_,h104 _⟩) ?_;exact flk;simp (disch:=omega) only[g3,jU,go_sem])|exact tF
    all_goals (generalize s.any spc=b;grind)
  ·have k2:(64<(s.length:Int))=True:=eqt oma;refine qx gV (by simp) ?_;simp only[lco,lnl,Nat.reduceAdd,Nat.reduceSub,List.replicate,lca,lna,lan];simp (disch:=omega) only[pr,k1,k2,go_sem]
   repeat' first|(refine qj ((.int .i64 0)) ?_;simp (disch:=omega) only[go_sem])|(apply qe;exact rvk;simp only[go_sem];apply qd)
   all_goals (generalize s.any spc=b;grind)
 ·have e:s= []:=List.eq_nil_of_length_eq_zero oma;subst e;refine qx gV (by simp) ?_;simp only[lco,lnl,Nat.reduceAdd,Nat.reduceSub,List.replicate,lca,lna,lan];simp (disch:=omega) only[pr,go_sem]
  repeat' first|(refine qj ((.int .i64 0)) ?_;simp (disch:=omega) only[go_sem])|exact tF
  all_goals (generalize List.any _ spc=b;grind)
end HY
end
section
open Go Go.Proofs AF
def kl:List Nat:= [124,167,217]
theorem F9:qJ Tryz.prog 36 26 0 [RV.tmp 4] cEQ:=fi Tryz.f36 [] kl []
theorem Mc:qJ Tryz.prog 45 26 0 [RV.tmp 4] cEQ:=fi Tryz.f45 [] kl []
theorem LX:qJ Tryz.prog 21 9 0 [RV.tmp 4] (cCT 77):=fi Tryz.f21 [] kl []
theorem Me:qJ Tryz.prog 77 19 0 [RV.tmp 4] cIX:=fi Tryz.f77 [] kl []
theorem ES:qJ Tryz.prog 171 9 0 [RV.tmp 4] (cCT 22):=fi Tryz.f171 [] kl []
theorem LY:qJ Tryz.prog 22 19 0 [RV.tmp 4] cIX:=fi Tryz.f22 [] kl []
theorem EX:qJ Tryz.prog 179 19 0 [RV.tmp 4] (cIF 1 none):=fi Tryz.f179 [] kl []
def Db:C:=
 (ph [MC 4 (.str []),MC 5 (.bool false)] (p8 [MV 6 0,MV 7 1,O2 8 (.call 269 true) 6 7,O1 9 (.ext 0) 8,O1 10 (.ext 1) 8,MV 4 9,MV 5 10]))
theorem Fe:qJ Tryz.prog 228 11 0 [RV.tmp 4,RV.tmp 5] Db:=fi Tryz.f228 [] kl []
def CN:C:=
 (ph [MC 4 (.bool false)] ((ph [oE 5 0] (C.block 0 ((sm 6 5 0 0).seq ((C.block 1 (ph [MV 12 0,MV 13 5,O2 14 (.idxA 1) 12 13,LD 15 14,O1 16 .slen 15,oF 17 .gtr 16 20] (pk 17 (p8
 [MC 4 (.bool true)])))).seq (rv 10 5))).loop)).seq (p8 [MV 18 0,O1 19 .len 18,MV 20 1,BI 21 .gtr 19 20,MV 4 21])))
theorem EP:qJ Tryz.prog 149 22 0 [RV.tmp 4] CN:=fi Tryz.f149 [] kl []
def W6:C:=
 (ph [MC 4 (.str []),MC 5 (.bool false)] ((ph [MV 6 0,MV 7 1,O2 8 (.call 298 true) 6 7,O1 9 (.un UnOp.not) 8] (pk 9 (p8 [MV 10 0,MV 4 10,MC 5 (.bool false)]))).seq (p8 [MV 11
 0,MV 12 0,O1 13 .slen 12,MV 14 1,O1 15 .slen 14,BI 16 .sub 13 15,O2 17 (.sslc false true) 11 16,MV 4 17,MC 5 (.bool true)])))
theorem V2:qJ Tryz.prog 269 18 0 [RV.tmp 4,RV.tmp 5] W6:=fi Tryz.f269 [] kl []
def jO:C:=
 (ph [O1 1 (.box 0 92) 0,oE 2 0] ((ph [oB 6 4 1,LD 7 6,oF 8 .lss 7 0,MV 9 8,sv 10 9 4 1,tv 11 9 10,pc 12 9 (.bin .gtr) 11 (i6 31),PT 13 9 12] (pk 13 (p8 [oE 2 2]))).seq (ph [O1
 14 (.load (some 6)) 1,OC 15 (.call 190 true) 14 (i6 2),O1 16 (.load (some 6)) 1,OC 17 (.call 190 true) 16 (i6 8),MV 3 15,MV 4 17] ((ph [MV 18 3,MV 19 18,MG 20 19 true 4,PF 21
 19 20] (pk 21 (p8 [oE 2 8]))).seq ((C.block 0 (ph [MV 51 3,MV 50 51] (C.cond (.t 50) (ph [oB 52 0 1,LD 53 52,O1 54 (.call 191 true) 53,O1 55 (.un UnOp.not) 54,MV 56 55,sv 57 56
 1 1,tv 58 56 57,sv 59 56 0 1,tv 60 56 59,oX 61 56 (.bin .neq) 58 60,PT 62 56 61] (pk 62 (p8 [oE 2 11]))) (ph [MV 64 4,MV 63 64] (C.cond (.t 63) (ph [oB 65 0 1,LD 66 65,O1 67
 .slen 66,oF 68 .neq 67 1,MV 69 68,sv 70 69 0 1,tv 71 69 70,pc 72 69 .sidx 71 (i6 0),oT 73 69 (.call 154 true) 72,pc 74 69 (.bin .neq) 73 (i6 5),pb 75 69 74,P1 76 75 true (.fldA
 0) 1,P1 77 75 true (.load none) 76,PC 78 75 true .sidx 77 (i6 0),P1 79 75 true (.call 154 true) 78,PC 80 75 true (.bin .neq) 79 (i6 4),QF 81 69 false 75 80,PT 82 69 81,MV 83
 82,sv 84 83 1 1,tv 85 83 84,sv 86 83 0 1,tv 87 83 86,oX 88 83 (.bin .neq) 85 87,PT 89 83 88] (pk 89 (p8 [oE 2 11]))) ((ph [oB 22 0 1,LD 23 22,O1 24 (.call 100 true) 23,O1 25
 (.un UnOp.not) 24,MV 26 25,sv 27 26 1 1,tv 28 26 27,pc 29 26 (.bin .eql) 28 (.str []),PT 30 26 29,MV 31 30,sv 32 31 1 1,tv 33 31 32,oT 34 31 .slen 33,pc 35 31 (.bin .gtr) 34
 (i6 64),PT 36 31 35] (pk 36 (p8 [oE 2 11]))).seq (ph [oE 5 0] (C.block 1 ((ph [MV 37 5,oB 38 1 1,LD 39 38,O1 40 .slen 39,BI 41 .lss 37 40] (p7 41 1)).seq ((C.block 2 (ph [oB 44
 1 1,LD 45 44,MV 46 5,O2 47 .sidx 45 46,O1 48 (.call 192 true) 47,O1 49 (.un UnOp.not) 48] (pk 49 (p8 [oE 2 11])))).seq (rv 42 5))).loop)))))))).seq ((ph [oB 90 2 1,oB 91 1
 90,LD 92 91,oF 93 .lss 92 0] (pk 93 (p8 [oE 2 2]))).seq ((ph [oB 94 2 1,oB 95 0 94,LD 96 95,O1 97 (.call 193 true) 96,O1 98 (.un UnOp.not) 97,MV 99 98,sv 100 99 5 1,tv 101 99
 100,oT 102 99 (.call 193 true) 101,oT 103 99 (.un UnOp.not) 102,PT 104 99 103] (pk 104 (p8 [oE 2 14]))).seq (p8 [oE 2 0]))))))))
theorem zX:qJ Tryz.prog 143 105 1 [RV.tmp 2] jO:=fi Tryz.f143 [1] kl []
def C5:C:=
 (ph [O1 2 (.box 0 92) 0,MC 4 (.bool false)] (p8 [oB 5 4 2,LD 6 5,MV 7 1,BI 8 .quo 6 7,oF 9 .rem 8 2,oF 10 .eql 9 1,MV 4 10]))
theorem E6:qJ Tryz.prog 190 11 1 [RV.tmp 4] C5:=fi Tryz.f190 [2] kl []
def C6:C:=
 (ph [MC 2 (.bool false)] ((ph [oE 3 1] (C.block 0 ((ph [MV 4 3,oF 5 .leq 4 64] (p7 5 0)).seq ((C.block 1 (ph [MV 8 0,MV 9 3,O1 10 (.call 115 true) 9,ON 11 (.bin .add) [.c (.str
 [91]),.t 10],BC 12 .add 11 (.str [93]),BI 13 .eql 8 12] (pk 13 (p8 [MC 2 (.bool true)])))).seq (rv 6 3))).loop)).seq (p8 [MC 2 (.bool false)])))
theorem E7:qJ Tryz.prog 191 14 0 [RV.tmp 2] C6:=fi Tryz.f191 [] kl []
def pz:C:=
 (ph [MC 2 (.bool false)] (ph [MV 4 0,O1 5 (.call 154 true) 4,MV 3 5] (p8 [MV 6 3,oF 7 .eql 6 1,MV 8 7,pb 9 8 3,pc 10 8 (.bin .eql) 9 (i6 2),PT 11 8 10,MV 12 11,pb 13 12 3,pc 14
 12 (.bin .eql) 13 (i6 3),PT 15 12 14,MV 16 15,pb 17 16 3,pc 18 16 (.bin .eql) 17 (i6 4),PT 19 16 18,MV 2 19])))
theorem gZ:qJ Tryz.prog 192 20 0 [RV.tmp 2] pz:=fi Tryz.f192 [] kl []
def WZ:C:=
 (ph [MC 2 (.bool false)] (p8 [MV 3 0,BC 4 .eql 3 (.str []),MV 5 4,pb 6 5 0,oT 7 5 (.call 141 true) 6,PT 8 5 7,MV 2 8]))
theorem VU:qJ Tryz.prog 193 9 0 [RV.tmp 2] WZ:=fi Tryz.f193 [] kl []
end
section
open Go Go.Proofs AF HY LN
namespace RC
abbrev Str:=List UInt8
def qG(L:List Int):AV:= .sl L.length λi=> [.int .i64 (L.getD i 0)]
def fU(s:Str):Bool:=decide (1<=s.length)&&decide (s.drop (s.length-1)= [42])
def KA(s:Str):Bool:=if fU s=true then kN (s.take (s.length-1))&&decide (s.length<=16) else kN s
theorem YF:((1:Nat):Int)=1:=rfl
theorem Wc(s:Str)(h:up)(hs:s.length<=1000000000):ACalls Tryz.prog 298 [.str s,.str [42]] h (.bool (fU s)) h:=by
 unfold fU
 by_cases g:1<=s.length
 ·have k1:((1:Int)<=s.length)=True:=eqt oma;have k2:((s.length:Int)-1).toNat=s.length-1:=by omega
  have k3:(0<=(s.length:Int)-1)=True:=eqt oma;have k4:((s.length:Int)-1<=s.length)=True:=eqt oma;have k5:List.take (s.length-(s.length-1)) (List.drop (s.length-1) s)=s.drop (s.length-1):=ltl (by simp);rw[dqt g];refine acO V3 ?_;simp (disch:=omega) only[W7,YF,k1,k2,k3,k4,k5,go_sem]
  repeat' first|exact tF|with_reducible apply aiA|exact clz
 ·have k1:((1:Int)<=s.length)=False:=eqf oma;rw[dqf g];refine acO V3 ?_;simp (disch:=omega) only[W7,YF,k1,go_sem]
  repeat' first|exact tF
theorem Xw(s:Str)(h:up)(hs:s.length<=1000000000):ACalls Tryz.prog 269 [.str s,.str [42]] h (.tup [.str (if fU s=true then s.take (s.length-1) else s),.bool (fU s)]) h:=by
 have c1:=λh=>Wc s h hs
 cases g:fU s with
 |true=>
  rw[g]at c1;have g1:1<=s.length:=by unfold fU at g;simp at g;omega
  have k2:((s.length:Int)-1).toNat=s.length-1:=by omega
  have k3:(0<=(s.length:Int)-1)=True:=eqt oma;have k4:((s.length:Int)-1<=s.length)=True:=eqt oma;refine acO V2 ?_;simp (disch:=omega) only[W6,go_sem]
  repeat' first|(refine cA (c1 _) flk ?_;simp (disch:=omega) only[YF,k2,k3,k4,Nat.sub_zero,go_sem])|exact tF|with_reducible apply aiA|exact clz
 |false=>
  rw[g]at c1;refine acO V2 ?_;simp (disch:=omega) only[W6,go_sem]
  repeat' first|(refine cA (c1 _) flk ?_;simp (disch:=omega) only[go_sem])|exact tF
theorem Ea(s:Str)(h:up)(hs:s.length<=1000000000):ACalls Tryz.prog 228 [.str s,.str [42]] h (.tup [.str (if fU s=true then s.take (s.length-1) else s),.bool (fU s)]) h:=by
 have c1:=λh=>Xw s h hs
 refine acO Fe ?_;simp (disch:=omega) only[Db,go_sem]
 repeat' first|(refine cA (c1 _) flk ?_;simp (disch:=omega) only[go_sem])|exact tF|with_reducible apply aiA|exact clz
theorem KO(s:Str)(h:1<=s.length):fU s=decide (((s[s.length-1]?).getD 0).toNat=42):=by
 unfold fU;rw[dqt h,Bool.true_and];have e:s.drop (s.length-1)= [(s[s.length-1]?).getD 0]:=by
  rw[List.drop_eq_getElem_cons (show s.length-1<s.length by omega),zG (show s.length-1<s.length by omega),List.drop_eq_nil_of_le oma];rfl
 rw[e];congr 1;simp only[List.cons.injEq,and_true,eq_iff_iff];exact⟨λh=>by rw[h];rfl,λh=>UInt8.toNat_inj.1 (by rw[h];rfl)⟩
def wH(f:Nat->Int):Nat->Nat->Int
 |_,0=>0
 |i,k+1=>if f i≠0 then f i else wH f (i+1) k
theorem di{f:Nat->Int}{n i:Nat}(hi:i<=n)(h: ∀j,j<i->f j=0):wH f 0 n=wH f i (n-i):=by
 induction i with
 |zero=>rfl
 |succ i ih=>
  rw[ih oma (λj hj=>h j oma),show n-i=(n-(i+1))+1 by omega];simp only[wH,h i oma,ne_eq,not_true_eq_false,if_false]
theorem vS{f:Nat->Int}{n i:Nat}(hi:i<n)(h: ∀j,j<i->f j=0)(hp:f i≠0):wH f 0 n=f i:=by
 rw[di oma h,show n-i=(n-i-1)+1 by omega];simp only[wH];rw[ipo hp]
theorem jP{f:Nat->Int}{n:Nat}(h: ∀j,j<n->f j=0):wH f 0 n=0:=by
 rw[di (nlr n) h,Nat.sub_self];rfl
theorem jJ{f:Nat->Int}{n:Nat}:wH f 0 n=0↔ ∀j,j<n->f j=0:=by
 refine⟨λh=> ?_,jP⟩;intro j
 induction j using Nat.strongRecOn with
 |_ j ih=>
  intro hj
  by_cases e:f j=0
  ·exact e
  ·rw[vS hj (λk hk=>ih k hk oma) e]at h;exact absurd h e
def Ai(b:Int)(l:List Int)(i:Nat):Int:=if l.getD i 0<0∨b<=l.getD i 0 then 2 else if 0<i∧l.getD i 0<=l.getD (i-1) 0 then 10 else 0
def IT(b:Int)(l:List Int):Int:=wH (Ai b l) 0 l.length
structure Gr where
 name:Str
 mem:List Int
 deriving Inhabited
def grC(g:Gr):Qt:= [.str g.name,qG g.mem]
def QH(gs:List Gr):AV:= .sl gs.length λi=>grC (gs.getD i default)
def jR(names:List Str)(i:Nat):Int:=if KA (names.getD i [])=false then 14 else if jo (λj=>decide (names.getD i []=names.getD j [])) i=true then 7 else 0
def Ya(names:List Str)(gs:List Gr)(i:Nat):Int:=
 if kN (gs.getD i default).name=false then 14 else if jo (λj=>decide ((gs.getD i default).name=names.getD j [])) names.length=true then 7 else
  if jo (λj=>decide ((gs.getD i default).name=(gs.getD j default).name)) i=true then 7 else if (gs.getD i default).mem.length=0 then 5 else IT names.length (gs.getD i default).mem
def sgE(names:List Str)(gs:List Gr):Int:=
 if 32<names.length then 4 else if wH (jR names) 0 names.length≠0 then wH (jR names) 0 names.length else if 16<gs.length then 4 else wH (Ya names gs) 0 gs.length
theorem Jf(n:Nat)(g:Nat->Str)(x:Str)(h:up)(hn:n<=1000000000):ACalls Tryz.prog 22 [.sl n (λj=> [.str (g j)]),.str x] h (.int .i64 (xZ (λj=>decide (x=g j)) n 0)) h:=by
 have:=GO LY n (λj=> .s (g j)) (.s x) h (λ_ _=>rfl) oma
 simpa only[At.v,At.s.injEq] using this
theorem LC(n:Nat)(g:Nat->Str)(x:Str)(h:up)(hn:n<=1000000000):ACalls Tryz.prog 171 [.sl n (λj=> [.str (g j)]),.str x] h (.bool (jo (λj=>decide (x=g j)) n)) h:=
 BD ES ⟨rfl,rfl⟩ ⟨rfl,rfl⟩ (Jf n g x h hn)
end RC
end
section
namespace AF
open Go
theorem Wk.kill{t:Qt}{h:up}{k v:Nat}{ty:TypeId}{cs:Qt}(hk:qt k h=some (.mem v ty cs)):Wk t h t (qo k h (.emp (v+1))):=by
 intro N w σ a H;have hkl:k<σ.length:=by rw[H.hr.len];exact zD hk
 have ho:=zG hkl;obtain⟨m1,_⟩:=H.hr.obj k _ _ hk ho;obtain⟨g1,g2⟩:=H.hr.kill ho;rw[m1]at g1 g2;exact⟨_,⟨g1,H.sz,λi c x hc hx=>(H.tm i c x hc hx).ext g2,wC g2 H.df⟩,g2⟩
end AF
end
section
open Go Go.Proofs AF HY LN
namespace RC
theorem lg{p q:Nat->Bool}{n:Nat}(h: ∀i,i<n->p i=q i):jo p n=jo q n:=by
 cases e:jo q n with
 |true=>obtain⟨i,h1,h2⟩:=qN.1 e;exact qN.2 ⟨i,h1,by rw[h i h1,h2]⟩
 |false=>exact qp.2 λi hi=>by rw[h i hi];exact qp.1 e i hi
def M7(l:List Int):Nat:=l.foldl (λa n=>a|||2^n.toNat) 0
def inB(b:Int)(l:List Int):Prop:= ∀i,i<l.length->0<=l.getD i 0∧l.getD i 0<b
theorem Wh(l:List Int): ∀a:Nat,a<2^64->(∀n∈l,0<=n∧n<64)->l.foldl (λa n=>a|||2^n.toNat) a<2^64∧ ∀i,(l.foldl (λa n=>a|||2^n.toNat) a).testBit i=(a.testBit i||decide ((i:Int)∈l)):=by
 induction l with
 |nil=>intro a ha _;exact⟨ha,λi=>by simp⟩
 |cons n l ih=>
  intro a ha hl;have hn:=hl n (by simp);obtain⟨h1,h2⟩:=ih (a|||2^n.toNat) (Nat.or_lt_two_pow ha (Nat.pow_lt_pow_right oma oma)) (λm hm=>hl m (by simp[hm]));refine⟨h1,λi=> ?_⟩;rw[List.foldl_cons,h2 i,Nat.testBit_or,Nat.testBit_two_pow]
  by_cases e:(i:Int)=n
  ·have e':n.toNat=i:=by omega
   simp[e,e']
  ·have e': ¬n.toNat=i:=by omega
   simp[e,e']
theorem yj{l:List Int}{b:Int}(h:inB b l): ∀n∈l,0<=n∧n<b:=by
 intro n hn;obtain⟨i,hi,e⟩:=List.getElem_of_mem hn
 have:=h i hi
 rw[gdqA,zG hi]at this;rw[<-e];exact this
theorem G0{l:List Int}(h:inB 64 l):M7 l<2^64:=(Wh l 0 (by decide) (yj h)).1
theorem Yr{l:List Int}(h:inB 64 l)(i:Nat):(M7 l).testBit i=decide ((i:Int)∈l):=by
 have:=(Wh l 0 (by decide) (yj h)).2 i
 rw[Nat.zero_testBit,Bool.false_or]at this;exact this
def sD(p:Nat->Bool)(k:Nat):List Int:=((List.range k).filter p).map Int.ofNat
def qQ(L:List Int):Qt:=L.map λn=> .int .i64 n
theorem jQ(L:List Int):(qQ L).length=L.length:=by simp[qQ]
theorem sf(L M:List Int):qQ (L++M)=qQ L++qQ M:=by simp[qQ]
theorem si{L:List Int}:qQ L= []↔L= []:=by simp[qQ]
theorem sj{L:List Int}{n:Nat}(g:AV->AV)(hg: ∀n,g (.int .i64 n)= .int .i64 n)(hn:n=L.length):VLe (.sl n λi=>(((qQ L).drop i).take 1).map g) (qG L):=by
 subst hn;refine VLe.sl_eq rfl (λi hi=> ?_);unfold qQ;rw[<-List.map_drop,List.drop_eq_getElem_cons hi,List.map_cons,List.take_succ_cons,List.take_zero,List.map_cons,List.map_nil,hg,gdqA,zG hi];rfl
theorem lU(L:List Int):(qG L).flag=true:=rfl
theorem fW(L:List Int):(qG L).strip=qG L:=rfl
theorem rR{fz:Nat->Bool}{h:up}{n:Nat}(L:List Int):frz fz h (n+1) (qG L)=qG L:=rfl
theorem tR{fz:Nat->Bool}{h:up}{n:Nat}(L:List Int):rei fz h (n+1) (qG L)=qG L:=rfl
theorem rH(L:List Str):(strs L).flag=true:=rfl
theorem nh(L:List Str):(strs L).strip=strs L:=rfl
theorem Z2{fz:Nat->Bool}{h:up}{n:Nat}(L:List Str):frz fz h (n+1) (strs L)=strs L:=rfl
theorem J9{fz:Nat->Bool}{h:up}{n:Nat}(L:List Str):rei fz h (n+1) (strs L)=strs L:=rfl
theorem rE(L:List Gr):(QH L).flag=true:=rfl
theorem nc(L:List Gr):(QH L).strip=QH L:=rfl
theorem Z0{fz:Nat->Bool}{h:up}{n:Nat}(L:List Gr):frz fz h (n+1) (QH L)=QH L:=rfl
theorem J7{fz:Nat->Bool}{h:up}{n:Nat}(L:List Gr):rei fz h (n+1) (QH L)=QH L:=rfl
attribute [go_sem] lU fW rR tR rH nh Z2 J9 rE nc Z0 J7
def nIx(names:List Str)(s:Str):Int:=xZ (λj=>decide (s=names.getD j [])) names.length 0
def gIx(gs:List Gr)(s:Str):Int:=xZ (λj=>decide (s=(gs.getD j default).name)) gs.length 0
def Kz(names:List Str)(gs:List Gr)(sg:List Str)(i:Nat):Int:=
 if nIx names (sg.getD i [])<0∧gIx gs (sg.getD i [])<0 then 6 else if jo (λj=>decide (sg.getD i []=sg.getD j [])) i=true then 7 else 0
def els(names:List Str)(gs:List Gr)(s:Str):List Int:=if 0<=nIx names s then [nIx names s] else (gs.getD (gIx gs s).toNat default).mem
def VC(names:List Str)(gs:List Gr)(sg:List Str):Nat->Nat
 |0=>0
 |i+1=>VC names gs sg i|||M7 (els names gs (sg.getD i []))
def lN(names:List Str)(gs:List Gr)(sg:List Str):Int:=if sgE names gs≠0 then 1 else wH (Kz names gs sg) 0 sg.length
def yU(names:List Str)(gs:List Gr)(sg:List Str):List Int:=if lN names gs sg=0 then sD (VC names gs sg sg.length).testBit 64 else []
theorem Aj{b:Int}{l:List Int}(h:IT b l=0):inB b l∧ ∀i,0<i->i<l.length->l.getD (i-1) 0<l.getD i 0:=by
 unfold IT at h;rw[jJ]at h;refine⟨λi hi=> ?_,λi h0 hi=> ?_⟩
 ·have:=h i hi
  unfold Ai at this;split at this
  ·cases this
  ·rename_i hc;omega
 ·have:=h i hi
  unfold Ai at this;split at this
  ·cases this
  ·split at this
   ·cases this
   ·rename_i hc;omega
structure IN (names:List Str) (gs:List Gr):Prop where
 n32:names.length<=32
 g16:gs.length<=16
 na: ∀i,i<names.length->jR names i=0
 gr: ∀i,i<gs.length->Ya names gs i=0
theorem Wv{names:List Str}{gs:List Gr}(h:sgE names gs=0):IN names gs:=by
 unfold sgE at h;split at h
 ·cases h
 split at h
 ·rename_i h1;exact absurd h h1
 split at h
 ·cases h
 rename_i h1 h2 h3;exact⟨oma,oma,jJ.1 (by simpa using h2),jJ.1 h⟩
theorem Yb{names:List Str}{gs:List Gr}(h:IN names gs){i:Nat}(hi:i<gs.length):IT names.length (gs.getD i default).mem=0:=by
 have:=h.gr i hi
 unfold Ya at this
 repeat' split at this
 all_goals first|(cases this;done)|exact this
theorem sE(names:List Str)(s:Str):(∃k:Nat,k<names.length∧names.getD k []=s∧nIx names s=k)∨((∀j,j<names.length->s≠names.getD j [])∧nIx names s= -1):=by
 rcases zJ (λj=>decide (s=names.getD j [])) names.length with⟨i,h1,h2,_,h4⟩|⟨h1,h2⟩
 ·exact .inl ⟨i,h1,(of_decide_eq_true h2).symm,h4⟩
 ·exact .inr ⟨λj hj=>of_decide_eq_false (h1 j hj),h2⟩
theorem rU(gs:List Gr)(s:Str):(∃k:Nat,k<gs.length∧(gs.getD k default).name=s∧gIx gs s=k)∨((∀j,j<gs.length->s≠(gs.getD j default).name)∧gIx gs s= -1):=by
 rcases zJ (λj=>decide (s=(gs.getD j default).name)) gs.length with⟨i,h1,h2,_,h4⟩|⟨h1,h2⟩
 ·exact .inl ⟨i,h1,(of_decide_eq_true h2).symm,h4⟩
 ·exact .inr ⟨λj hj=>of_decide_eq_false (h1 j hj),h2⟩
theorem rp{names:List Str}{gs:List Gr}{s:Str}(h:IN names gs)(hf: ¬(nIx names s<0∧gIx gs s<0)):inB names.length (els names gs s):=by
 unfold els;rcases sE names s with⟨k,h1,_,h3⟩|⟨_,h3⟩
 ·rw[h3,ipo oma];intro i hi
  have:i=0:=by simpa using hi
  subst this;simp only[List.getD_cons_zero];omega
 ·rw[h3,ine oma];rcases rU gs s with⟨k,g1,_,g3⟩|⟨_,g3⟩
  ·rw[g3,itn];exact (Aj (Yb h g1)).1
  ·exact absurd ⟨oma,oma⟩ hf
theorem ia{b c:Int}{l:List Int}(h:inB b l)(hbc:b<=c):inB c l:=λi hi=>⟨(h i hi).1,by have:=(h i hi).2;omega⟩
theorem WJ{names:List Str}{gs:List Gr}{sg:List Str}(h:IN names gs): ∀ {i:Nat},(∀j,j<i->Kz names gs sg j=0)->VC names gs sg i<2^64∧ ∀k,(VC names gs sg i).testBit k=decide (∃j,j<i∧(k:Int)∈els names gs (sg.getD j [])):=by
 intro i
 induction i with
 |zero=>intro _;exact⟨Nat.two_pow_pos 64,λk=>by simp[VC]⟩
 |succ i ih=>
  intro hz;obtain⟨h1,h2⟩:=ih (λj hj=>hz j oma);have h3: ¬(nIx names (sg.getD i [])<0∧gIx gs (sg.getD i [])<0):=by
   intro hc
   have:=hz i oma
   unfold Kz at this;rw[ipo hc]at this;cases this
  have h4:inB 64 (els names gs (sg.getD i [])):=ia (rp h h3) (by have:=h.n32;omega);refine⟨Nat.or_lt_two_pow h1 (G0 h4),λk=> ?_⟩;unfold VC;rw[Nat.testBit_or,h2 k,Yr h4 k,<-Bool.decide_or];refine decide_eq_decide.2 ⟨?_,?_⟩
  ·rintro (⟨j,hj,hm⟩|hm)
   ·exact⟨j,oma,hm⟩
   ·exact⟨i,oma,hm⟩
  ·rintro⟨j,hj,hm⟩
   by_cases e:j=i
   ·subst e;exact .inr hm
   ·exact .inl ⟨j,oma,hm⟩
end RC
end
section
namespace AF
open Go Go.RowKit
theorem Ext.ofBelow{w w':World}{σ:List OB}{h:up}(H:HR w σ h)(hb:Below w.heap.size w w'):HR w' σ h∧Ext w σ w' σ:=by
 have e:Ext w σ w' σ:=⟨hb.os,hb.tape,hb.output,hb.size,λb hl _=>hb.block b hl,λ_ h=> .inl h,λ_ o h=>⟨o,h,nlr _,λ_=>rfl⟩,
  λb r h=>⟨r,(hb.block b (Array.getElem?_eq_some_iff.1 h).1).trans h⟩⟩
 exact⟨⟨H.len,H.inj,λk o b h1 h2=>Nat.lt_of_lt_of_le (H.lt k o b h1 h2) hb.size,λk a o h1 h2=>(H.obj k a o h1 h2).ext e (λb h3=>hb.block b (H.lt k o b h2 h3))⟩,e⟩
theorem AN{w:World}{σ:List OB}{n:Nat}{g:Nat->List UInt8}{x:Value}(h:VR w σ (.sl n λi=> [.str (g i)]) x):
  (n=0∧ ∃a,x= .slice a 0 0)∨ ∃(b off cap:Nat),x= .slice (some ⟨b,off,none⟩) n cap∧n<=cap∧b<w.heap.size∧ ∀i,i<n->w.cell? ⟨b,off+i,none⟩=some (.string ⟨(g i).toArray⟩):=by
 rcases cf h with h|⟨sz,b,off,cap,vals,h1,h2,h3,h4,h5,h6,h7,h8,h9⟩
 ·exact .inl h
 ·refine .inr ⟨b,off,cap,h1,h2,h5,λi hi=> ?_⟩;have hs:1=sz:=h6 i hi;subst hs;have hv:=h9 i 0 (.str (g i)) hi rfl;have hc:=h7 i 0 hi oma;rw[Nat.mul_one,Nat.add_zero]at hc;rw[hc,jh (σ:=σ) (.imm hv)]
end AF
end
section
namespace AF
open Go Go.ChangeShapes Go.WideShapes Go.ChangeAt Go.RowKit
def tG:OB:=⟨none,0,0,0⟩
theorem fB(b:Nat): ¬own [tG] b:=by
 rintro⟨k,o,h,h2⟩;cases k with
 |zero=>simp at h;subst h;cases h2
 |succ k=>simp at h
theorem GN{w:World}{bs:List Nat}{G:World->Prop}(hb: ∀b,b∈bs-> ∃arr T fz,w.heap[b]? =some (.cells arr T fz))(hG: ∀w':World,(∀b,b∈bs->w'.heap[b]? =w.heap[b]?)->G w'):
  HR w [tG] [.pin bs G]:=by
 refine⟨rfl,?_,?_,?_⟩
 ·intro i j oi oj b hi hj bi;cases i with
  |zero=>simp at hi;subst hi;cases bi
  |succ i=>simp at hi
 ·intro k o b hk hb';cases k with
  |zero=>simp at hk;subst hk;cases hb'
  |succ k=>simp at hk
 ·intro k a o ha ho;cases k with
  |zero=>
   simp at ha ho;subst ha;subst ho;exact⟨rfl,rfl,λb h=>⟨fB b,hb b h⟩,hG⟩
  |succ k=>simp at ha
theorem XK(w:World):Ext w [] w [tG]:=
 ⟨rfl,rfl,rfl,nlr _,λ_ _ _=>rfl,λb h=>absurd h (fB b),λk o h=>by simp at h,λ_ r h=>⟨r,h⟩⟩
theorem nY{w w':World}{σ':List OB}(h:Ext w [tG] w' σ'):Below w.heap.size w w':=⟨h.os,h.tape,h.output,h.size,λk hk=>h.keep k hk (fB k)⟩
theorem VRs.ext{w w':World}{σ σ':List OB}(h:Ext w σ w' σ'){avs:Qt}{xs:List Value}(hv:VRs w σ avs xs):VRs w' σ' avs xs:=⟨hv.1,λi c x hc hx=>(hv.2 i c x hc hx).ext h⟩
theorem Hg{w:World}{σ:List OB}{h:up}{k:Nat}{bs:List Nat}{G:World->Prop}(H:HR w σ h)(hk:h[k]? =some (.pin bs G)):G w:=by
 have hl:k<σ.length:=by rw[H.len];exact (lgs.1 hk).1
 obtain⟨_,_,_,h4⟩:=H.obj k _ σ[k] hk (zG hl);exact h4 w (λ_ _=>rfl)
theorem dC{H:Type}{enc:TypeId×Value->H}{P:Program}{W:World}{f:Func}{fid:FuncId}{s:ChangeSpec}{args:Array Value}{ds gs:List (DataW H)}{before:List MemPlace}{tb:TypeId}{bs:List Nat}{G:World->Prop}
  (hl:laidOutB P=true) (hv:s.vars= []) (hfn: ∀ds',ds'.length=f.params.size->s.fn H ds'= { results:= [.lit (.bool true)],args:=ds' })
  (hrt:f.resultTypes= #[tb]) (htb:P.underlying tb=some .bool) (hro: ∀t∈f.params.toList,P.readableRec t=true∧t<P.types.size)
  (hW:DataW.Whole enc P f.params.toList s.vars false W args.toList ds gs before)
  (hb: ∀b,b∈bs-> ∃arr T fz,W.heap[b]? =some (.cells arr T fz)) (hG: ∀w':World,(∀b,b∈bs->w'.heap[b]? =W.heap[b]?)->G w')
  (hc: ∀p,DataW.TrodAll enc P W 0 (λ_=>true) true f.params.toList args.toList ds p->ds.length=f.params.size∧ ∃avs:Qt,VRs W [] avs args.toList∧ACalls P fid avs [.pin bs G] (.bool true) [.pin bs G]):
  Calls P fid args W λe W'=> ∃v,e= .returned v∧s.post enc P f false true false false W args v W':=by
 have hW':=hW;obtain⟨p,q,hA,hV,rfl,hz,_⟩:=hW;rw[hv]at hV;obtain⟨rfl,rfl⟩:=trodVars_none hV;obtain⟨hlen,avs,h1,h2⟩:=hc p hA;rw[lan]at hW';have h3:=h2.2 W [tG] args.toList (GN hb hG) (h1.ext (XK W));rw[Array.toArray_toList]at h3;refine (callsIn_wide.1 h3).mono ?_;rintro e W' ⟨v,σ',rfl,g1,g2,g3⟩;obtain rfl:=jH g2;exact⟨_,rfl,Jh hl hv (hfn ds hlen) hrt htb hro hW' hA (nY g3)⟩
theorem b7{P:Program}{w w':World}{name:String}{g:Nat}(hg:P.globalNamed name=some g)(h:w'.heap[g]? =w.heap[g]?):w'.var? P name=w.var? P name:=by
 unfold World.var?;rw[hg];simp only[Option.bind_some];rw[h]
theorem yS{P:Program}{w:World}{name:String}{g:Nat}{cs:Array Value}(hg:P.globalNamed name=some g)(h:w.var? P name=some cs): ∃arr T fz,w.heap[g]? =some (.cells arr T fz):=by
 unfold World.var? at h;rw[hg]at h;simp only[Option.bind_some]at h;split at h
 ·rename_i cs T fz hc;exact⟨_,_,_,hc⟩
 ·cases h
end AF
end
section
open Go Go.Proofs AF HY
namespace LN
def WC (w : World) : Prop := Lib.TabIs Tryz.prog w "internal/strconv.uint64pow10" .u64 Lib.pow10Tab
def IL (w : World) : Prop := (∃ tp p, w.var? Tryz.prog "strconv.ErrSyntax" = some #[.iface tp p]) ∧ ∃ tp p, w.var? Tryz.prog "strconv.ErrRange" = some #[.iface tp p]
def kJ(Q:World->Prop)(h:up):Prop:= ∃(k:Nat) (bs:List Nat) (G:World->Prop),h[k]? =some (.pin bs G)∧ ∀w,G w->Q w
theorem kJ.app{Q:World->Prop}{h:up}(hp:kJ Q h)(l:up):kJ Q (h++l):=by
 obtain⟨k,bs,G,h1,h2⟩:=hp;exact⟨k,bs,G,by rw[List.getElem?_append_left (lgs.1 h1).1];exact h1,h2⟩
theorem kJ.mono{Q Q':World->Prop}{h:up}(hp:kJ Q h)(hq: ∀w,Q w->Q' w):kJ Q' h:=by
 obtain⟨k,bs,G,h1,h2⟩:=hp;exact⟨k,bs,G,h1,λw hw=>hq w (h2 w hw)⟩
theorem kJ.of{Q:World->Prop}{h:up}{w:World}{σ:List OB}(hp:kJ Q h)(H:HR w σ h):Q w:=by
 obtain⟨k,bs,G,h1,h2⟩:=hp;exact h2 w (Hg H h1)
theorem t48(n:Int)(h:up)(hp:kJ WC h)(h0: -9223372036854775808<=n)(h1:n<=9223372036854775807):ACalls Tryz.prog 115 [.int .i64 n] h (.str (Lib.itoa n)) h:=by
 refine⟨Jq Tryz.func115 (by kernel_rfl) (by kernel_rfl),λw σ xs H hv=> ?_⟩;obtain⟨x,rfl,hx⟩:=hv.one;rw[zH hx];refine (callsIn_wide.2 (Any.strconv_Itoa Tryz.laysM171 n h0 h1 w (hp.of H))).mono ?_;rintro e w' ⟨rfl,k,os,rfl⟩;obtain⟨g1,g2⟩:=Ext.ofBelow H (Lib.below_grow w.heap.size w (nlr _) k os);exact⟨_,σ,rfl,g1,.imm .str,g2⟩
def B1(s:List UInt8):Int:=
 match Lib.atoiAll s with
 | .ok _=>0
 | .range=>Lib.atoiSat s
 |_=>0
def WO(s:List UInt8):AV:=
 match Lib.atoiAll s with
 | .ok v=> .tup [.int .i64 v,.nilif]
 |_=> .tup [.int .i64 (B1 s),.ifc]
theorem t50(s:List UInt8)(h:up)(hp:kJ IL h)(hl:s.length<=281474976710656):ACalls Tryz.prog 270 [.str s] h (WO s) h:=by
 refine⟨Jq Tryz.func270 (by kernel_rfl) (by kernel_rfl),λw σ xs H hv=> ?_⟩;obtain⟨x,rfl,hx⟩:=hv.one;rw[jh hx];have hsz:(⟨s.toArray⟩:ByteArray).size<=281474976710656:=by simpa[ByteArray.size] using hl
 obtain⟨⟨t1,p1,e1⟩,t2,p2,e2⟩:=hp.of H;unfold WO B1;have hd:(⟨s.toArray⟩:ByteArray).data.toList=s:=rfl;cases hs:Lib.atoiAll s
 ·rename_i v;refine (callsIn_wide.2 (Any.strconv_Atoi_ok Tryz.laysC172 ⟨s.toArray⟩ oma v (by rw[hd];exact hs) w)).mono ?_;rintro e w' ⟨rfl,hw⟩;have hb:Go.RowKit.Below w.heap.size w w':=by
   rcases hw with rfl|⟨t,rfl⟩
   ·exact Go.RowKit.Below.refl _ _
   ·exact Lib.bytesWorld_below _ _ _
  obtain⟨g1,g2⟩:=Ext.ofBelow H hb;refine⟨_,σ,rfl,g1,.imm (.tup rfl (λi c y hc hy=> ?_)),g2⟩
  match i with
  |0=>simp at hc hy;subst hc hy;exact .int
  |1=>simp at hc hy;subst hc hy;exact .nilif
  |i+2=>simp at hc
 ·refine (callsIn_wide.2 (Any.strconv_Atoi_syntax_var Tryz.laysC172 ⟨s.toArray⟩ hsz (by rw[hd];exact hs) t1 p1 w e1)).mono ?_;rintro e w' ⟨N,rfl,_,_,hb⟩;obtain⟨g1,g2⟩:=Ext.ofBelow H hb;refine⟨_,σ,rfl,g1,.imm (.tup rfl (λi c y hc hy=> ?_)),g2⟩
  match i with
  |0=>simp at hc hy;subst hc hy;exact .int
  |1=>simp at hc hy;subst hc hy;exact .ifc
  |i+2=>simp at hc
 ·refine (callsIn_wide.2 (Any.strconv_Atoi_range_var Tryz.laysC172 ⟨s.toArray⟩ hsz (by rw[hd];exact hs) t2 p2 w e2)).mono ?_;rintro e w' ⟨N,rfl,_,_,hb⟩;obtain⟨g1,g2⟩:=Ext.ofBelow H hb;refine⟨_,σ,rfl,g1,.imm (.tup rfl (λi c y hc hy=> ?_)),g2⟩
  match i with
  |0=>simp at hc hy;subst hc hy;exact .int
  |1=>simp at hc hy;subst hc hy;exact .ifc
  |i+2=>simp at hc
theorem sY: ∀(l r:List UInt8) (acc:Nat),Lib.parseUint10 acc (l++r)=match Lib.parseUint10 acc l with
  | .ok v=>Lib.parseUint10 v r
  |e=>e:=by
 intro l
 induction l with
 |nil=>intro r acc;rfl
 |cons c l ih=>
  intro r acc;rw[lca,Lib.parseUint10,Lib.parseUint10]
  by_cases h1:48<=c.toNat∧c.toNat<=57
  ·rw[ipo h1,ipo h1]
   by_cases h2:1844674407370955162<=acc
   ·rw[ipo h2,ipo h2]
   ·rw[ine h2,ine h2]
    by_cases h3:18446744073709551616<=acc*10+(c.toNat-48)
    ·rw[ipo h3,ipo h3]
    ·rw[ine h3,ine h3];exact ih r _
  ·rw[ine h1,ine h1]
theorem aW{d:Nat}(h:d<10):(UInt8.ofNat (48+d)).toNat=48+d:=by
 rw[UInt8.toNat_ofNat'];omega
theorem sZ: ∀u,u<1000000000->Lib.parseUint10 0 (Lib.decDigits u)= .ok u:=by
 intro u
 induction u using Nat.strongRecOn with
 |_ u ih=>
  intro hu
  by_cases h:u<10
  ·rw[Lib.decDigits,dif_pos h,Lib.parseUint10,aW h,ipo oma,ine oma,ine oma,Lib.parseUint10];congr 1;omega
  ·rw[Lib.decDigits,dif_neg h,sY,ih (u/10) oma oma];simp only;rw[Lib.parseUint10,aW oma,ipo oma,ine oma,ine oma,Lib.parseUint10];congr 1;omega
theorem lK: ∀u,∀c∈Lib.decDigits u,48<=c.toNat∧c.toNat<=57:=by
 intro u
 induction u using Nat.strongRecOn with
 |_ u ih=>
  intro c hc
  by_cases h:u<10
  ·rw[Lib.decDigits,dif_pos h,List.mem_singleton]at hc;subst hc;rw[aW h];omega
  ·rw[Lib.decDigits,dif_neg h]at hc;rcases List.mem_append.1 hc with hc|hc
   ·exact ih (u/10) oma c hc
   ·rw[List.mem_singleton]at hc;subst hc;rw[aW oma];omega
theorem Ed(u:Nat):Lib.decDigits u≠ []:=by
 intro h
 have:=Lib.decDigits_length u
 have:=Lib.nDigits_pos u
 rw[h]at*;simp at*;omega
theorem nW{n:Int}(h0:0<=n)(h1:n<1000000000):Lib.atoiAll (Lib.itoa n)= .ok n:=by
 obtain⟨u,rfl⟩: ∃u:Nat,n=u:=⟨n.toNat,oma⟩
 rw[Lib.itoa_nonneg];have hd:=lK u;have hp:=sZ u oma;have hne:=Ed u;cases hl:Lib.decDigits u with
 |nil=>exact absurd hl hne
 |cons c r=>
  rw[hl]at hd hp;have hc:=hd c (List.mem_cons_self ..);unfold Lib.atoiAll;simp only;rw[ine (show¬(c.toNat=43∨c.toNat=45) by omega)];unfold Lib.parseMag;rw[ine (by simp),hp];simp only;rw[ine oma,ine oma,ine oma]
end LN
end
section
open Go Go.Proofs AF HY LN
namespace RC
theorem QU{s:Str}{v:Int}(h:Lib.atoiAll s= .ok v): -9223372036854775808<=v∧v<=9223372036854775807:=by
 unfold Lib.atoiAll at h;split at h
 ·cases h
 ·simp only at h;split at h
  ·cases h
  ·cases h
  ·split at h
   ·cases h
   ·split at h
    ·cases h
    ·rename_i h1 h2;cases h;split
     ·rename_i h3;have:=mt (And.intro h3) h2;omega
     ·rename_i h3;have:=mt (And.intro h3) h1;omega
theorem fw{k:Nat}(h:k<=64):(Lib.itoa (k:Int)).length<=9:=by
 rw[Lib.itoa_nonneg]
 by_cases g:k<10
 ·rw[Lib.decDigits,dif_pos g];simp
 ·rw[Lib.decDigits,dif_neg g,Lib.decDigits,dif_pos (show k/10<10 by omega)];simp
def SG(w:World):Prop:=WC w∧IL w
theorem SG.pow{h:up}(hp:kJ SG h):kJ WC h:=hp.mono λ_ h=>h.1
theorem SG.err{h:up}(hp:kJ SG h):kJ IL h:=hp.mono λ_ h=>h.2
def pre(s:Str):Bool:=decide (1<=s.length)&&decide (s.take 1= [91])
def dj(s:Str):Bool:=(List.range 64).any λk=>decide (s=91::(Lib.itoa ((k+1:Nat):Int)++ [93]))
def NU(s:Str):Bool:=km s||(if s.length=1 then decide (kind (ch s 0)=5)||decide (kind (ch s 0)=4) else dj s)
def wE(s:Str):Int:=if NU s=true then 0 else 11
def QC(L:List Str):Int:=wH (λi=>wE (L.getD i [])) 0 L.length
theorem Oi(a b c:Str)(n f g:Int)(d:Str)(h:up)(hf:0<=f)(hf2:f<=31)(hg:0<g):ACalls Tryz.prog 190 [.agg [.str a,.str b,.str c,.int .i64 n,.int .i64 f,.str d],.int .i64 g] h (.bool (decide (f/g%2=1))) h:=by
 have k1:(g=0)=False:=eqf oma;have k2:0<=f/g:=Int.ediv_nonneg hf oma;have k3:f/g<=f:=Int.ediv_le_self _ hf;refine acO E6 ?_;simp (disch:=omega) only[C5,go_sem]
 repeat' first|exact tE|with_reducible apply aiA|exact clz
theorem Pj(s:Str)(h:up)(hs:s.length<=1000000000)(hp:kJ SG h):ACalls Tryz.prog 191 [.str s] h (.bool (dj s)) h:=by
 refine acO E7 ?_;simp (disch:=omega) only[C6,go_sem];refine qr (T:=λi:Nat=>qX 14 [(0,.str s),(3,.int .i64 ((i+1:Nat):Int))]) (H:=λ_=>h) (inv:=λi=>i<=64∧ ∀j,j<i->s≠91::(Lib.itoa ((j+1:Nat):Int)++ [93])) (m:=λi=>64-i) 0 ⟨nzl _,λj hj=>absurd hj (nnz j)⟩ (Wk.temps ?_) ?_
 ·(simp only[go_sem,qg,qc,qa,qf];try exact tS)
 rintro i ⟨i1,i2⟩ K hK;have ec:((i+1:Nat):Int)=(i:Int)+1:=by omega
 by_cases hi:i<64
 ·have k1:((i:Int)+1<=64)=True:=eqt oma;have c181:=t48 ((i:Int)+1) h (SG.pow hp) oma oma;have hl:(Lib.itoa ((i:Int)+1)).length<=9:=by rw[<-ec];exact fw oma
  obtain⟨t,ht⟩:=tT (Lib.itoa ((i:Int)+1))
  rw[<-ht]at c181 hl
  by_cases g:s=91::(t++ [93])
  ·have q1:(s=91::(t++ [93]))=True:=eqt g;have hV:dj s=true:=by
    unfold dj;rw[List.any_eq_true];exact⟨i,by simpa using hi,dqt (by rw[ec,<-ht];exact g)⟩
   rw[hV];simp (disch:=omega) only[ec,k1,go_sem]
   repeat' first|(refine cA (c181) flk ?_;simp (disch:=omega) only[q1,go_sem])|exact tF|with_reducible apply aiA|exact clz
  ·have q1:(s=91::(t++ [93]))=False:=eqf g;simp (disch:=omega) only[ec,k1,go_sem]
   repeat' first|(refine cA (c181) flk ?_;simp (disch:=omega) only[q1,go_sem])|with_reducible apply aiA|exact clz
   refine hK _ _ (i+1) ⟨hi,λj hj=> ?_⟩ oma (Wk.temps ?_)
   ·by_cases e':j=i
    ·subst e';rw[ec,<-ht];exact g
    ·exact i2 j oma
   ·(simp only[go_sem,qg,qc,qa,qf];try exact tS)
 ·have k1:((i:Int)+1<=64)=False:=eqf oma;have hV:dj s=false:=by
   cases e:dj s with
   |false=>rfl
   |true=>
    unfold dj at e;rw[List.any_eq_true]at e;obtain⟨j,hj,e⟩:=e;exact absurd (of_decide_eq_true e) (i2 j (by have:j<64:=(by simpa using hj);omega))
  rw[hV];simp (disch:=omega) only[ec,k1,go_sem]
  repeat' first|exact tF
def VH(C L:List Int):List Int:=L.foldl (λC n=>C.set n.toNat (C.getD n.toNat 0+1)) C
theorem Q5(L:List Int): ∀C:List Int,(VH C L).length=C.length:=by
 induction L with
 |nil=>intro C;rfl
 |cons n L ih=>intro C;show (VH (C.set _ _) L).length=_;rw[ih];simp
theorem sh{C:List Int}{n:Nat}(h:n<C.length):(qQ C)[n]? =some (.int .i64 (C.getD n 0)):=by
 unfold qQ;rw[List.getElem?_map,zG h,gdqA,zG h];rfl
theorem ZD{names:List Str}{gs:List Gr}{sg:List Str}:inB names.length (yU names gs sg)∧ ∀i,0<i->i<(yU names gs sg).length->(yU names gs sg).getD (i-1) 0<(yU names gs sg).getD i 0:=by
 unfold yU;split
 ·rename_i h;have h':=h;unfold lN at h';split at h'
  ·cases h'
  rename_i h1;have hok:=Wv (by simpa using h1);have hz:=jJ.1 h';obtain⟨m1,m2⟩:=WJ hok hz;have hsort:(sD (VC names gs sg sg.length).testBit 64).Pairwise (· < ·):=by
   unfold sD;rw[List.pairwise_map];exact (List.pairwise_lt_range.filter _).imp (λh=>Int.ofNat_lt.2 h)
  have hmem: ∀n∈sD (VC names gs sg sg.length).testBit 64,0<=n∧n<names.length:=by
   intro n hn;unfold sD at hn;obtain⟨k,hk,rfl⟩:=List.mem_map.1 hn;have hk2:=(List.mem_filter.1 hk).2;rw[m2 k]at hk2;obtain⟨j,hj,hm⟩:=of_decide_eq_true hk2;have hf: ¬(nIx names (sg.getD j [])<0∧gIx gs (sg.getD j [])<0):=by
    intro hc
    have:=hz j hj
    unfold Kz at this;rw[ipo hc]at this;cases this
   exact yj (rp hok hf) _ hm
  refine⟨λi hi=> ?_,λi h0 hi=> ?_⟩
  ·rw[gdqA,zG hi];exact hmem _ (List.getElem_mem hi)
  ·rw[gdqA,gdqA,zG hi,zG (show i-1<_ by omega)];exact List.pairwise_iff_getElem.1 hsort (i-1) i oma hi oma
 ·exact⟨λi hi=>absurd hi (nnz i),λi _ hi=>absurd hi (nnz i)⟩
theorem ZE{names:List Str}{gs:List Gr}{sg:List Str}:inB 32 (yU names gs sg):=by
 by_cases h:lN names gs sg=0
 ·have h':=h;unfold lN at h';split at h'
  ·cases h'
  rename_i h1;have hok:=Wv (by simpa using h1);exact ia ZD.1 (by have:=hok.n32;omega)
 ·have:yU names gs sg= []:=by unfold yU;rw[ine h]
  rw[this];exact λi hi=>absurd hi (nnz i)
structure Tk where
 text:Str
 norm:Str
 page:Str
 line:Int
 flags:Int
 name:Str
 deriving Inhabited, DecidableEq
def tkC(t:Tk):Qt:= [.str t.text,.str t.norm,.str t.page,.int .i64 t.line,.int .i64 t.flags,.str t.name]
def zP(l:List Tk):AV:= .sl l.length λi=>tkC (l.getD i default)
def qm(L:List (List Tk)):AV:= .sl L.length λi=> [zP (L.getD i [])]
def qw(L:List (List Int)):AV:= .sl L.length λi=> [qG (L.getD i [])]
structure Co where
 sec:Str
 sig:List Str
 tok:List (List Tk)
 col:List (List Int)
 deriving Inhabited
def coC(x:Co):Qt:= [.str x.sec,strs x.sig,qm x.tok,qw x.col]
structure Rd where
 words:List Str
 src:List Int
 deriving Inhabited, DecidableEq
def rdC(r:Rd):Qt:= [strs r.words,qG r.src]
def jq(l:List Rd):AV:= .sl l.length λi=>rdC (l.getD i default)
structure Un where
 frm:Int
 to:Int
 rds:List Rd
 deriving Inhabited, DecidableEq
def unC(u:Un):Qt:= [.int .i64 u.frm,.int .i64 u.to,jq u.rds]
def zM(l:List Un):AV:= .sl l.length λi=>unC (l.getD i default)
structure Wd where
 text:Str
 col:Int
 unit:Int
 dec:Int
 joined:Bool
 verse:Bool
 name:Str
 deriving Inhabited, DecidableEq
def wdC(w:Wd):Qt:= [.str w.text,.int .i64 w.col,.int .i64 w.unit,.int .i64 w.dec,.bool w.joined,.bool w.verse,.str w.name]
def vx(l:List Wd):AV:= .sl l.length λi=>wdC (l.getD i default)
theorem flag_tksV(L:List Tk):(zP L).flag=true:=rfl
theorem strip_tksV(L:List Tk):(zP L).strip=zP L:=rfl
theorem flag_tkssV(L:List (List Tk)):(qm L).flag=true:=rfl
theorem strip_tkssV(L:List (List Tk)):(qm L).strip=qm L:=rfl
theorem flag_colsV(L:List (List Int)):(qw L).flag=true:=rfl
theorem strip_colsV(L:List (List Int)):(qw L).strip=qw L:=rfl
theorem flag_rdsV(L:List Rd):(jq L).flag=true:=rfl
theorem strip_rdsV(L:List Rd):(jq L).strip=jq L:=rfl
theorem flag_unsV(L:List Un):(zM L).flag=true:=rfl
theorem strip_unsV(L:List Un):(zM L).strip=zM L:=rfl
theorem flag_wdsV(L:List Wd):(vx L).flag=true:=rfl
theorem strip_wdsV(L:List Wd):(vx L).strip=vx L:=rfl
section
variable {fz : Nat -> Bool} {h : up} {n : Nat}
theorem rei_tksV(L:List Tk):rei fz h (n+1) (zP L)=zP L:=rfl
theorem rei_tkssV(L:List (List Tk)):rei fz h (n+1) (qm L)=qm L:=rfl
theorem rei_colsV(L:List (List Int)):rei fz h (n+1) (qw L)=qw L:=rfl
theorem rei_rdsV(L:List Rd):rei fz h (n+1) (jq L)=jq L:=rfl
theorem rei_unsV(L:List Un):rei fz h (n+1) (zM L)=zM L:=rfl
theorem rei_wdsV(L:List Wd):rei fz h (n+1) (vx L)=vx L:=rfl
theorem frz_tksV(L:List Tk):frz fz h (n+1) (zP L)=zP L:=rfl
theorem frz_tkssV(L:List (List Tk)):frz fz h (n+1) (qm L)=qm L:=rfl
theorem frz_colsV(L:List (List Int)):frz fz h (n+1) (qw L)=qw L:=rfl
theorem frz_rdsV(L:List Rd):frz fz h (n+1) (jq L)=jq L:=rfl
theorem frz_unsV(L:List Un):frz fz h (n+1) (zM L)=zM L:=rfl
theorem frz_wdsV(L:List Wd):frz fz h (n+1) (vx L)=vx L:=rfl
end
attribute [go_sem] flag_tksV strip_tksV flag_tkssV strip_tkssV flag_colsV strip_colsV flag_rdsV strip_rdsV flag_unsV strip_unsV flag_wdsV strip_wdsV rei_tksV rei_tkssV rei_colsV rei_rdsV rei_unsV rei_wdsV frz_tksV frz_tkssV frz_colsV frz_rdsV frz_unsV frz_wdsV
def mb(f:Int):Bool:=f.toNat.testBit 1
def mkB(f:Int):Bool:=f.toNat.testBit 3
def sF(s:Str):Bool:=decide (s= [])||kN s
def BE(s:Str):Bool:=decide (s.length=1)&&(decide (kind (ch s 0)=5)||decide (kind (ch s 0)=4))
def vU(c:UInt8):Bool:=decide (kind c=1)||(decide (kind c=3)||(decide (kind c=2)||decide (kind c=4)))
def BF(s:Str):Bool:=decide (s≠ [])&&(decide (s.length<=64)&&(List.range s.length).all λi=>vU (ch s i))
def txB(t:Tk):Bool:=if mb t.flags=true then dj t.text&&decide (t.norm=t.text) else if mkB t.flags=true then BE t.text&&decide (t.norm=t.text) else km t.text&&BF t.norm
def tkE(t:Tk):Int:=
 if t.flags<0∨31<t.flags then 2 else if mb t.flags=true∧mkB t.flags=true then 8 else if txB t=false then 11 else if t.line<0 then 2 else if sF t.page=false∨sF t.name=false then 14 else 0
def bT(l:List Tk):Int:=if 1024<l.length then 4 else if jo (λj=>decide (tkE (l.getD j default)≠0)) l.length=true then 1 else 0
def srE(x:Co):Int:=
 if kN x.sec=false then 14 else if x.sig.length=0 then 5 else if 32<x.sig.length then 4 else if wH (jR x.sig) 0 x.sig.length≠0 then wH (jR x.sig) 0 x.sig.length else
  if x.tok.length≠x.sig.length then 9 else wH (λi=>bT (x.tok.getD i [])) 0 x.tok.length
def cnC(col:List (List Int))(s:Nat):Nat->Nat
 |0=>0
 |i+1=>cnC col s i+if (col.getD i []).getD s 0= -1 then 0 else 1
def enB(tok:List (List Tk))(col:List (List Int))(i s:Nat):Bool:=
 decide ((col.getD i []).getD s 0= -1)||(decide ((col.getD i []).getD s 0=(cnC col s i:Int))&&decide ((col.getD i []).getD s 0<((tok.getD s []).length:Int)))
def cX(tok:List (List Tk))(col:List (List Int))(i:Nat):Bool:=
 decide ((col.getD i []).length=tok.length)&&(!jo (λs=> !enB tok col i s) tok.length&&jo (λs=> !decide ((col.getD i []).getD s 0= -1)) tok.length)
def alB(tok:List (List Tk))(col:List (List Int)):Bool:=
 !jo (λi=> !cX tok col i) col.length&& !jo (λs=> !decide (cnC col s col.length=(tok.getD s []).length)) tok.length
def coE(x:Co):Int:=if srE x≠0 then srE x else if alB x.tok x.col=false then 19 else 0
structure CoOk (x:Co):Prop where
 sg:0<x.sig.length∧x.sig.length<=32
 tn:x.tok.length=x.sig.length
 tl: ∀s,s<x.tok.length->(x.tok.getD s []).length<=1024
 te: ∀s,s<x.tok.length-> ∀j,j<(x.tok.getD s []).length->tkE ((x.tok.getD s []).getD j default)=0
 cl: ∀i,i<x.col.length->(x.col.getD i []).length=x.sig.length
 ce: ∀i,i<x.col.length-> ∀s,s<x.sig.length->(x.col.getD i []).getD s 0= -1∨((x.col.getD i []).getD s 0=(cnC x.col s i:Int)∧(x.col.getD i []).getD s 0<((x.tok.getD s []).length:Int))
 cs: ∀i,i<x.col.length-> ∃s,s<x.sig.length∧(x.col.getD i []).getD s 0≠ -1
 ct: ∀s,s<x.sig.length->cnC x.col s x.col.length=(x.tok.getD s []).length
theorem xE{x:Co}(h:coE x=0):CoOk x:=by
 unfold coE at h;split at h
 ·rename_i h1;exact absurd h h1
 rename_i h1;have h1:=Classical.not_not.1 h1;split at h
 ·cases h
 rename_i h2;unfold srE at h1;split at h1
 ·cases h1
 split at h1
 ·cases h1
 rename_i g2;split at h1
 ·cases h1
 rename_i g3;split at h1
 ·rename_i g4;exact absurd h1 g4
 split at h1
 ·cases h1
 rename_i g5;have g5:=Classical.not_not.1 g5;have h3:=jJ.1 h1;have h2:alB x.tok x.col=true:=by simpa using h2
 unfold alB at h2;rw[Bool.and_eq_true,Bool.not_eq_true',Bool.not_eq_true',qp,qp]at h2;obtain⟨h4,h5⟩:=h2;have h6: ∀i,i<x.col.length->cX x.tok x.col i=true:=λi hi=>by simpa using h4 i hi
 have hrow: ∀s,s<x.tok.length->(x.tok.getD s []).length<=1024∧ ∀j,j<(x.tok.getD s []).length->tkE ((x.tok.getD s []).getD j default)=0:=λs hs=>by
  have:=h3 s hs
  unfold bT at this;split at this
  ·cases this
  rename_i k1;split at this
  ·cases this
  rename_i k2;refine⟨oma,λj hj=> ?_⟩
  have:=qp.1 (by simpa using k2) j hj
  simpa using this
 refine⟨oma,g5,λs hs=>(hrow s hs).1,λs hs=>(hrow s hs).2,λi hi=> ?_,λi hi s hs=> ?_,λi hi=> ?_,λs hs=> ?_⟩
 ·have:=h6 i hi
  unfold cX at this;rw[Bool.and_eq_true,decide_eq_true_iff]at this;omega
 ·have:=h6 i hi
  unfold cX at this;rw[Bool.and_eq_true,Bool.and_eq_true,Bool.not_eq_true',qp]at this
  have:=this.2.1 s oma
  have this:enB x.tok x.col i s=true:=by simpa using this
  unfold enB at this;simpa[Bool.or_eq_true,Bool.and_eq_true] using this
 ·have:=h6 i hi
  unfold cX at this;rw[Bool.and_eq_true,Bool.and_eq_true]at this;obtain⟨s,hs,hv⟩:=qN.1 this.2.2;exact⟨s,oma,by simpa using hv⟩
 ·have:=h5 s oma
  simpa using this
end RC
end
section
open Go Go.Proofs AF
def zV:List Nat:= []
def ky:C:=
 (ph [O1 1 (.box 0 92) 0,oE 2 0] ((ph [oB 6 4 1,LD 7 6,oF 8 .lss 7 0,MV 9 8,sv 10 9 4 1,tv 11 9 10,pc 12 9 (.bin .gtr) 11 (i6 31),PT 13 9 12] (pk 13 (p8 [oE 2 2]))).seq (ph [oB
 14 4 1,LD 15 14,oF 16 .and 15 2,oF 17 .neq 16 0,oB 18 4 1,LD 19 18,oF 20 .and 19 8,oF 21 .neq 20 0,MV 3 17,MV 4 21] ((ph [MV 22 3,MV 23 22,MG 24 23 true 4,PF 25 23 24] (pk 25
 (p8 [oE 2 8]))).seq (ph [MC 5 (.fn (Fn.func 134) [] [])] ((ph [MV 26 3] (pk 26 (p9 [MC 5 (.fn (Fn.func 230) [] [])]))).seq ((ph [MV 27 4] (pk 27 (p9 [MC 5 (.fn (Fn.func 231) []
 [])]))).seq ((C.block 0 ((ph [MV 29 5,oB 30 0 1,LD 31 30,O2 32 .callv 29 31,O1 33 (.un UnOp.not) 32,MV 28 33] (C.cond (.t 28) C.skip (ph [O1 34 (.load (some 6)) 1,O1 35 (.call
 232 true) 34,MV 36 35,P1 37 36 true (.fldA 1) 1,P1 38 36 true (.load none) 37,P1 39 36 true (.call 233 true) 38,P1 40 36 true (.un UnOp.not) 39,PF 41 36 40,MV 28 41] (C.cond
 (.t 28) C.skip (p9 [O1 42 (.load (some 6)) 1,O1 43 (.call 232 true) 42,O1 44 (.un UnOp.not) 43,MV 45 44,P1 46 45 true (.fldA 1) 1,P1 47 45 true (.load none) 46,P1 48 45 true
 (.fldA 0) 1,P1 49 45 true (.load none) 48,P2 50 45 true (.bin .neq) 47 49,PF 51 45 50,MV 28 51]))))).seq (C.cond (.t 28) (p8 [oE 2 11]) (ph [oB 53 2 1,oB 54 1 53,LD 55 54,oF 56
 .lss 55 0,MV 52 56] (C.cond (.t 52) (p8 [oE 2 2]) (ph [oB 58 2 1,oB 59 0 58,LD 60 59,O1 61 (.call 234 true) 60,O1 62 (.un UnOp.not) 61,MV 63 62,sv 64 63 5 1,tv 65 63 64,oT 66
 63 (.call 234 true) 65,oT 67 63 (.un UnOp.not) 66,PT 68 63 67,MV 57 68] (pk 57 (p8 [oE 2 14])))))))).seq (p8 [oE 2 0])))))))))
theorem jj:qJ Tryz.prog 174 69 1 [RV.tmp 2] ky:=fi Tryz.f174 [1] zV []
def aT:C:=
 (ph [MC 2 (.bool false)] ((ph [MV 5 0,O1 6 .slen 5,oF 7 .lss 6 3,MV 8 7,pb 9 8 0,pc 10 8 .sidx 9 (i6 0),pc 11 8 (.bin .neq) 10 (.int .u8 91),PT 12 8 11,MV 13 12,pb 14 13 0,pb 15
 13 0,oT 16 13 .slen 15,pc 17 13 (.bin .sub) 16 (i6 1),oX 18 13 .sidx 14 17,pc 19 13 (.bin .neq) 18 (.int .u8 93),PT 20 13 19] (pk 20 (p8 [MC 2 (.bool false)]))).seq (ph [MV 22
 0,MV 23 0,O1 24 .slen 23,oF 25 .sub 24 1,ON 26 (.sslc true true) [.t 22,.c (i6 1),.t 25],O1 27 (.call 270 true) 26,MV 21 27,O1 28 (.ext 0) 21,O1 29 (.ext 1) 21,MV 3 28,MV 4 29]
 (p8 [MV 30 4,O1 31 (.isnil .iface false) 30,MV 32 31,MG 33 32 true 3,PC 34 32 true (.bin .geq) 33 (i6 1),PF 35 32 34,MV 36 35,MG 37 36 true 3,PC 38 36 true (.bin .leq) 37 (i6
 64),PF 39 36 38,MV 40 39,MG 41 40 true 0,MG 42 40 true 3,P1 43 40 true (.call 115 true) 42,PN 44 40 true (.bin .add) [.c (.str [91]),.t 43],PC 45 40 true (.bin .add) 44 (.str
 [93]),P2 46 40 true (.bin .eql) 41 45,PF 47 40 46,MV 2 47]))))
theorem xG:qJ Tryz.prog 230 48 0 [RV.tmp 2] aT:=fi Tryz.f230 [] zV []
def Q9:C:=
 (ph [MC 2 (.bool false)] ((ph [MV 4 0,O1 5 .slen 4,oF 6 .neq 5 1] (pk 6 (p8 [MC 2 (.bool false)]))).seq (ph [MV 7 0,OC 8 .sidx 7 (i6 0),O1 9 (.call 185 true) 8,MV 3 9] (p8 [MV
 10 3,oF 11 .eql 10 5,MV 12 11,pb 13 12 3,pc 14 12 (.bin .eql) 13 (i6 4),PT 15 12 14,MV 2 15]))))
theorem rM:qJ Tryz.prog 231 16 0 [RV.tmp 2] Q9:=fi Tryz.f231 [] zV []
def Df:C:=
 (ph [O1 1 (.box 0 92) 0,MC 2 (.bool false)] (p8 [oB 3 4 1,LD 4 3,oF 5 .and 4 10,oF 6 .eql 5 0,MV 2 6]))
theorem Ff:qJ Tryz.prog 232 7 1 [RV.tmp 2] Df:=fi Tryz.f232 [1] zV []
def Dh:C:=
 (ph [MC 2 (.bool false)] ((ph [MV 4 0,O1 5 .slen 4,oE 6 0] (C.block 0 (ph [BI 7 .lss 6 5] ((p7 7 0).seq ((C.block 1 (ph [MV 8 6,MV 3 8] (ph [MV 9 0,MV 10 3,O2 11 .sidx 9 10,O1
 12 (.call 271 true) 11,O1 13 (.un UnOp.not) 12] (pk 13 (p8 [MC 2 (.bool false)]))))).seq (p9 [oF 14 .add 6 1,MV 6 14])))).loop)).seq (p8 [MV 15 0,BC 16 .neq 15 (.str []),MV 17
 16,MG 18 17 true 0,P1 19 17 true .slen 18,PC 20 17 true (.bin .leq) 19 (i6 64),PF 21 17 20,MV 2 21])))
theorem Fg:qJ Tryz.prog 233 22 0 [RV.tmp 2] Dh:=fi Tryz.f233 [] zV []
def W1:C:=
 (ph [MC 2 (.bool false)] (p8 [MV 3 0,BC 4 .eql 3 (.str []),MV 5 4,pb 6 5 0,oT 7 5 (.call 169 true) 6,PT 8 5 7,MV 2 8]))
theorem VX:qJ Tryz.prog 234 9 0 [RV.tmp 2] W1:=fi Tryz.f234 [] zV []
def Za:C:=
 (ph [MC 2 (.bool false)] (ph [MV 4 0,O1 5 (.call 185 true) 4,MV 3 5] (p8 [MV 6 0,O1 7 (.call 301 true) 6,MV 8 7,pb 9 8 3,pc 10 8 (.bin .eql) 9 (i6 2),PT 11 8 10,MV 12 11,pb 13
 12 3,pc 14 12 (.bin .eql) 13 (i6 4),PT 15 12 14,MV 2 15])))
theorem rN:qJ Tryz.prog 271 16 0 [RV.tmp 2] Za:=fi Tryz.f271 [] zV []
def W8:C:=
 (ph [MC 2 (.bool false)] (ph [MV 4 0,O1 5 (.call 185 true) 4,MV 3 5] (p8 [MV 6 3,oF 7 .eql 6 1,MV 8 7,pb 9 8 3,pc 10 8 (.bin .eql) 9 (i6 3),PT 11 8 10,MV 2 11])))
theorem V4:qJ Tryz.prog 301 12 0 [RV.tmp 2] W8:=fi Tryz.f301 [] zV []
def Lc:C:=
 (ph [O1 1 (.box 0 26) 0,oE 2 0] ((ph [oB 4 0 1,LD 5 4,oB 6 1 1,LD 7 6,oB 8 2 1,LD 9 8,ON 10 (.call 125 true) [.t 5,.t 7,.t 9],MV 3 10] (ph [MV 11 3,oF 12 .neq 11 0] (pk 12 (p8
 [MV 13 3,MV 2 13])))).seq ((ph [oB 14 2 1,LD 15 14,oB 16 3 1,LD 17 16,O2 18 (.call 126 true) 15 17,oF 19 .neq 18 0] (pk 19 (p8 [oE 2 19]))).seq (p8 [oE 2 0]))))
theorem Gf:qJ Tryz.prog 67 20 1 [RV.tmp 2] Lc:=fi Tryz.f67 [1] zV []
def pq:C:=
 (ph [oE 6 0] ((C.block 0 (ph [MV 12 0,O1 13 (.call 169 true) 12,O1 14 (.un UnOp.not) 13,MV 11 14] (C.cond (.t 11) (p8 [oE 6 14]) (ph [MV 16 1,O1 17 .len 16,oF 18 .eql 17 0,MV 15
 18] (C.cond (.t 15) (p8 [oE 6 5]) (ph [MV 20 1,O1 21 .len 20,oF 22 .gtr 21 32,MV 19 22] (pk 19 (p8 [oE 6 4])))))))).seq ((ph [MV 23 1,O1 24 .len 23,oE 25 0] (C.block 1 (ph [BI
 26 .lss 25 24] ((p7 26 1).seq ((C.block 2 (ph [MV 27 25,O2 28 (.idxA 1) 23 25,LD 29 28,MV 7 27,MV 8 29] ((ph [MV 30 8,O1 31 (.call 170 true) 30,O1 32 (.un UnOp.not) 31] (pk 32
 (p8 [oE 6 14]))).seq (ph [MV 33 1,MV 34 7,O2 35 (.slc 1 false true) 33 34,MV 36 8,O2 37 (.call 171 true) 35 36] (pk 37 (p8 [oE 6 7])))))).seq (p9 [oF 38 .add 25 1,MV 25
 38])))).loop)).seq ((ph [MV 39 2,O1 40 .len 39,MV 41 1,O1 42 .len 41,BI 43 .neq 40 42] (pk 43 (p8 [oE 6 9]))).seq ((ph [MV 44 2,O1 45 .len 44,oE 46 0] (C.block 3 (ph [BI 47
 .lss 46 45] ((p7 47 3).seq ((C.block 4 (ph [O2 48 (.idxA 1) 44 46,LD 49 48,MV 10 49] ((ph [MV 50 10,O1 51 .len 50,oF 52 .gtr 51 1024] (pk 52 (p8 [oE 6 4]))).seq (ph [MV 53
 10,OC 54 (.call 172 true) 53 (.fn (Fn.func 173) [] [])] (pk 54 (p8 [oE 6 1])))))).seq (p9 [oF 55 .add 46 1,MV 46 55])))).loop)).seq (p8 [oE 6 0]))))))
theorem gU:qJ Tryz.prog 125 56 0 [RV.tmp 6] pq:=fi Tryz.f125 [] zV []
def CQ:C:=
 (ph [O1 1 (.box 0 92) 0,MC 2 (.bool false)] (p8 [O1 3 (.load (some 6)) 1,O1 4 (.call 174 true) 3,oF 5 .neq 4 0,MV 2 5]))
theorem ET:qJ Tryz.prog 173 6 1 [RV.tmp 2] CQ:=fi Tryz.f173 [1] zV []
def py:C:=
 (ph [MC 2 (.bool false)] (ph [MV 6 0,OC 7 (.call 228 true) 6 (.str [42]),MV 5 7,O1 8 (.ext 0) 5,O1 9 (.ext 1) 5,MV 3 8,MV 4 9] (p8 [MV 10 3,O1 11 (.call 169 true) 10,MV 12 11,MG
 13 12 true 4,P1 14 12 true (.un UnOp.not) 13,MG 15 12 true 14,pb 16 15 0,oT 17 15 .slen 16,pc 18 15 (.bin .leq) 17 (i6 16),QT 19 12 true 15 18,PF 20 12 19,MV 2 20])))
theorem gY:qJ Tryz.prog 170 21 0 [RV.tmp 2] py:=fi Tryz.f170 [] zV []
def CS:C:=
 (ph [oE 2 0] ((C.block 0 (ph [MV 4 0,O1 5 .len 4,oF 6 .eql 5 0,MV 3 6] (C.cond (.t 3) (p8 [oE 2 5]) (ph [MV 8 0,O1 9 .len 8,oF 10 .gtr 9 32,MV 11 10,pb 12 11 0,pc 13 11 (.call
 235 true) 12 (.fn (Fn.func 236) [] []),PT 14 11 13,MV 7 14] (pk 7 (p8 [oE 2 4])))))).seq (p8 [oE 2 0])))
theorem EU:qJ Tryz.prog 175 15 0 [RV.tmp 2] CS:=fi Tryz.f175 [] zV []
def Di:C:=
 (ph [MC 2 (.bool false)] (p8 [MV 3 0,O1 4 .len 3,oF 5 .gtr 4 1024,MV 2 5]))
theorem Fj:qJ Tryz.prog 236 6 0 [RV.tmp 2] Di:=fi Tryz.f236 [] zV []
def Cd:C:=
 (ph [oE 4 0] ((ph [MV 6 0,O1 7 (.call 175 true) 6,MV 5 7] (ph [MV 8 5,oF 9 .neq 8 0] (pk 9 (p8 [MV 10 5,MV 4 10])))).seq ((ph [MV 11 0,MV 12 1,O2 13 (.call 176 true) 11 12,O1 14
 (.un UnOp.not) 13] (pk 14 (p8 [oE 4 19]))).seq (p8 [oE 4 0]))))
theorem EA:qJ Tryz.prog 126 15 0 [RV.tmp 4] Cd:=fi Tryz.f126 [] zV []
def CU:C:=
 (ph [MC 4 (.bool false)] (ph [MV 12 0,O1 13 .len 12,⟨some 14,none,.mkslc 0 1 3 [i6 0] 8,[.t 13,.t 13]⟩,MV 5 14] ((ph [MV 15 1,O1 16 .len 15,oE 17 0] (C.block 0 (ph [BI 18 .lss
 17 16] ((p7 18 0).seq ((C.block 1 (ph [O2 19 (.idxA 1) 15 17,LD 20 19,MV 7 20] ((ph [MV 21 7,O1 22 .len 21,MV 23 0,O1 24 .len 23,BI 25 .neq 22 24] (pk 25 (p8 [MC 4 (.bool
 false)]))).seq (ph [MC 8 (.bool false)] ((ph [MV 26 7,O1 27 .len 26,oE 28 0] (C.block 2 (ph [BI 29 .lss 28 27] ((p7 29 2).seq ((C.block 3 (ph [MV 30 28,O2 31 (.idxA 1) 26 28,LD
 32 31,MV 9 30,MV 10 32] ((ph [MV 33 10,BC 34 .eql 33 (i6 (-1))] (pk 34 (C.exit 3))).seq ((ph [MV 35 10,MV 36 5,MV 37 9,O2 38 (.idxA 1) 36 37,LD 39 38,BI 40 .neq 35 39,MV 41
 40,pb 42 41 10,pb 43 41 0,pb 44 41 9,oX 45 41 (.idxA 1) 43 44,tv 46 41 45,oT 47 41 .len 46,oX 48 41 (.bin .geq) 42 47,PT 49 41 48] (pk 49 (p8 [MC 4 (.bool false)]))).seq (ph
 [MV 50 5,MV 51 9,O2 52 (.idxA 1) 50 51,LD 53 52,oF 54 .add 53 1,O2 55 (.idxA 1) 50 51,ST 1 55 54] (p9 [MC 8 (.bool true)])))))).seq (p9 [oF 56 .add 28 1,MV 28
 56])))).loop)).seq (ph [MV 57 8,O1 58 (.un UnOp.not) 57] (pk 58 (p8 [MC 4 (.bool false)])))))))).seq (p9 [oF 59 .add 17 1,MV 17 59])))).loop)).seq ((ph [MV 60 0,O1 61 .len
 60,oE 62 0] (C.block 4 (ph [BI 63 .lss 62 61] ((p7 63 4).seq ((C.block 5 (ph [MV 64 62,MV 11 64] (ph [MV 65 5,MV 66 11,O2 67 (.idxA 1) 65 66,LD 68 67,MV 69 0,MV 70 11,O2 71
 (.idxA 1) 69 70,LD 72 71,O1 73 .len 72,BI 74 .neq 68 73] (pk 74 (p8 [MC 4 (.bool false)]))))).seq (p9 [oF 75 .add 62 1,MV 62 75])))).loop)).seq (p8 [MC 4 (.bool true)])))))
theorem EV:qJ Tryz.prog 176 76 1 [RV.tmp 4] CU:=fi Tryz.f176 [14] zV []
def I8:C:=
 (ph [O1 1 (.box 0 26) 0,oE 2 0] ((ph [oB 10 0 1,LD 11 10,oB 12 1 1,LD 13 12,oB 14 2 1,LD 15 14,ON 16 (.call 87 true) [.t 11,.t 13,.t 15],MV 3 16] (ph [MV 17 3,oF 18 .neq 17 0]
 (pk 18 (p8 [MV 19 3,MV 2 19])))).seq (ph [oB 20 1 1,LD 21 20,O1 22 .len 21,⟨some 23,none,.mkslc 1 1 3 [i6 0] 8,[.t 22,.t 22]⟩,MV 4 23] ((ph [oE 5 0] (C.block 0 ((ph [MV 24 5,oB
 25 3 1,LD 26 25,O1 27 .len 26,BI 28 .lss 24 27] (p7 28 0)).seq ((C.block 1 (ph [oB 31 3 1,LD 32 31,MV 33 5,O2 34 (.idxA 1) 32 33,LD 35 34,MV 6 35] ((ph [MV 36 6,O1 37 .len
 36,MV 38 4,O1 39 .len 38,BI 40 .neq 37 39] (pk 40 (p8 [oE 2 19]))).seq (ph [MC 7 (.bool false)] ((ph [oE 8 0] (C.block 2 ((sm 41 8 6 2).seq ((C.block 3 ((ph [MV 47 6,MV 48 8,O2
 49 (.idxA 1) 47 48,LD 50 49,BC 51 .eql 50 (i6 (-1))] (pk 51 (C.exit 3))).seq ((ph [MV 52 6,MV 53 8,O2 54 (.idxA 1) 52 53,LD 55 54,MV 56 4,MV 57 8,O2 58 (.idxA 1) 56 57,LD 59
 58,BI 60 .neq 55 59,MV 61 60,pb 62 61 6,pb 63 61 8,oX 64 61 (.idxA 1) 62 63,tv 65 61 64,sv 66 61 2 1,tv 67 61 66,pb 68 61 8,oX 69 61 (.idxA 1) 67 68,tv 70 61 69,oT 71 61 .len
 70,oX 72 61 (.bin .geq) 65 71,PT 73 61 72] (pk 73 (p8 [oE 2 19]))).seq (ph [MV 74 4,MV 75 8,O2 76 (.idxA 1) 74 75,LD 77 76,oF 78 .add 77 1,O2 79 (.idxA 1) 74 75,ST 1 79 78] (p9
 [MC 7 (.bool true)]))))).seq (rv 45 8))).loop)).seq (ph [MV 80 7,O1 81 (.un UnOp.not) 80] (pk 81 (p8 [oE 2 19])))))))).seq (rv 29 5))).loop)).seq ((ph [oE 9 0] (C.block 4 ((sm
 82 9 4 4).seq ((C.block 5 (ph [MV 88 4,MV 89 9,O2 90 (.idxA 1) 88 89,LD 91 90,oB 92 2 1,LD 93 92,MV 94 9,O2 95 (.idxA 1) 93 94,LD 96 95,O1 97 .len 96,BI 98 .neq 91 97] (pk 98
 (p8 [oE 2 19])))).seq (rv 86 9))).loop)).seq (p8 [oE 2 0]))))))
theorem FT:qJ Tryz.prog 29 99 2 [RV.tmp 2] I8:=fi Tryz.f29 [1,23] zV []
def D4:C:=
 (ph [oE 6 0] ((ph [MV 11 0,O1 12 (.call 141 true) 11,O1 13 (.un UnOp.not) 12] (pk 13 (p8 [oE 6 14]))).seq ((ph [MV 14 1,O1 15 .len 14,oF 16 .eql 15 0] (pk 16 (p8 [oE 6 5]))).seq
 ((ph [MV 17 1,O1 18 .len 17,oF 19 .gtr 18 32] (pk 19 (p8 [oE 6 4]))).seq ((ph [oE 7 0] (C.block 0 ((sm 20 7 1 0).seq ((C.block 1 ((ph [MV 26 1,MV 27 7,O2 28 (.idxA 1) 26 27,LD
 29 28,O1 30 (.call 142 true) 29,O1 31 (.un UnOp.not) 30] (pk 31 (p8 [oE 6 14]))).seq (ph [oE 8 0] (C.block 2 ((ph [MV 32 8,MV 33 7,BI 34 .lss 32 33] (p7 34 2)).seq ((C.block 3
 (ph [MV 37 1,MV 38 8,O2 39 (.idxA 1) 37 38,LD 40 39,MV 41 1,MV 42 7,O2 43 (.idxA 1) 41 42,LD 44 43,BI 45 .eql 40 44] (pk 45 (p8 [oE 6 7])))).seq (rv 35 8))).loop)))).seq (rv 24
 7))).loop)).seq ((ph [MV 46 2,O1 47 .len 46,MV 48 1,O1 49 .len 48,BI 50 .neq 47 49] (pk 50 (p8 [oE 6 9]))).seq ((ph [oE 9 0] (C.block 4 ((sm 51 9 2 4).seq ((C.block 5 ((ph [MV
 57 2,MV 58 9,O2 59 (.idxA 1) 57 58,LD 60 59,O1 61 .len 60,oF 62 .gtr 61 1024] (pk 62 (p8 [oE 6 4]))).seq (ph [oE 10 0] (C.block 6 ((ph [MV 63 10,MV 64 2,MV 65 9,O2 66 (.idxA 1)
 64 65,LD 67 66,O1 68 .len 67,BI 69 .lss 63 68] (p7 69 6)).seq ((C.block 7 (ph [MV 72 2,MV 73 9,O2 74 (.idxA 1) 72 73,LD 75 74,MV 76 10,O2 77 (.idxA 6) 75 76,O1 78 (.load (some
 6)) 77,O1 79 (.call 143 true) 78,oF 80 .neq 79 0] (pk 80 (p8 [oE 6 1])))).seq (rv 70 10))).loop)))).seq (rv 55 9))).loop)).seq (p8 [oE 6 0]))))))))
theorem ZW:qJ Tryz.prog 87 81 0 [RV.tmp 6] D4:=fi Tryz.f87 [] zV []
def pu:C:=
 (ph [MC 2 (.bool false)] ((ph [MV 4 0,O1 5 .slen 4,MV 3 5] (ph [MV 6 3,oF 7 .gtr 6 0,MV 8 7,MG 9 8 true 0,MG 10 8 true 3,PC 11 8 true (.bin .sub) 10 (i6 1),P2 12 8 true .sidx 9
 11,PC 13 8 true (.bin .eql) 12 (.int .u8 42),PF 14 8 13] (pk 14 (p8 [MV 15 3,oF 16 .leq 15 16,MV 17 16,MG 18 17 true 0,MG 19 17 true 3,PC 20 17 true (.bin .sub) 19 (i6 1),P2 21
 17 true (.sslc false true) 18 20,P1 22 17 true (.call 141 true) 21,PF 23 17 22,MV 2 23])))).seq (p8 [MV 24 0,O1 25 (.call 141 true) 24,MV 2 25])))
theorem gW:qJ Tryz.prog 142 26 0 [RV.tmp 2] pu:=fi Tryz.f142 [] zV []
end
section
open Go Go.Proofs AF HY LN
namespace RC
theorem M8(s:Str)(h:up)(hs:s.length<=1000000000):ACalls Tryz.prog 234 [.str s] h (.bool (sF s)) h:=by
 have c1:=λh=>t44 s h hs
 unfold sF
 by_cases g:s= []
 ·subst g;rw[dqt rfl,Bool.true_or];refine acO VX ?_;simp (disch:=omega) only[W1,go_sem]
  repeat' first|(refine qj ( .bool false) ?_;simp (disch:=omega) only[go_sem])|exact tF
 ·have k1:(s= [])=False:=eqf g;rw[dqf g,Bool.false_or];refine acO VX ?_;simp (disch:=omega) only[W1,k1,go_sem]
  repeat' first|(refine cG (λe=>c1 _) flk ?_;simp (disch:=omega) only[go_sem])|exact tF
theorem PO(s:Str)(h:up)(hs:s.length<=1000000000):ACalls Tryz.prog 231 [.str s] h (.bool (BE s)) h:=by
 unfold BE
 by_cases g:s.length=1
 ·have k1:((s.length:Int)=1)=True:=eqt oma;have k2:((0:Int)<s.length)=True:=eqt oma;have e:(s[0]?).getD 0=ch s 0:=by simp[ch,gdqA]
  have c5:=λh=>x9 (ch s 0) h
  rw[dqt g,Bool.true_and];obtain⟨k,hk⟩:=tT (kind (ch s 0))
  rw[<-hk]at c5 ⊢
  by_cases g1:k=5
  ·have q1:(k=5)=True:=eqt g1;rw[dqt g1,Bool.true_or];refine acO rM ?_;simp (disch:=omega) only[Q9,k1,go_sem]
   repeat' first|(refine cA (c5 _) flk ?_;simp (disch:=omega) only[e,q1,go_sem])|exact tF|with_reducible apply aiA|exact clz
  ·have q1:(k=5)=False:=eqf g1;rw[dqf g1,Bool.false_or];refine acO rM ?_;simp (disch:=omega) only[Q9,k1,go_sem]
   repeat' first|(refine cA (c5 _) flk ?_;simp (disch:=omega) only[e,q1,go_sem])|exact tF|with_reducible apply aiA|exact clz
 ·have k1:((s.length:Int)=1)=False:=eqf oma;rw[dqf g,Bool.false_and];refine acO rM ?_;simp (disch:=omega) only[Q9,k1,go_sem]
  repeat' first|exact tF
theorem IP(c:UInt8)(h:up):ACalls Tryz.prog 301 [.int .u8 (c.toNat:Int)] h (.bool (decide (kind c=1)||decide (kind c=3))) h:=by
 have c5:=λh=>x9 c h
 obtain⟨k,hk⟩:=tT (kind c)
 rw[<-hk]at c5 ⊢
 by_cases g1:k=1
 ·have q1:(k=1)=True:=eqt g1;rw[dqt g1,Bool.true_or];refine acO V4 ?_;simp (disch:=omega) only[W8,go_sem]
  repeat' first|(refine cA (c5 _) flk ?_;simp (disch:=omega) only[q1,go_sem])|exact tF
 ·have q1:(k=1)=False:=eqf g1;rw[dqf g1,Bool.false_or];refine acO V4 ?_;simp (disch:=omega) only[W8,go_sem]
  repeat' first|(refine cA (c5 _) flk ?_;simp (disch:=omega) only[q1,go_sem])|exact tF
theorem IS(c:UInt8)(h:up):ACalls Tryz.prog 271 [.int .u8 (c.toNat:Int)] h (.bool (vU c)) h:=by
 have c5:=λh=>x9 c h
 have c6:=λh=>IP c h
 unfold vU;rw[<-Bool.or_assoc];obtain⟨k,hk⟩:=tT (kind c)
 rw[<-hk]at c5 c6 ⊢;obtain⟨b,hb⟩:=tT ((decide (k=1)||decide (k=3)))
 rw[<-hb]at c6 ⊢;cases b with
 |true=>
  rw[Bool.true_or];refine acO rN ?_;simp (disch:=omega) only[Za,go_sem]
  repeat' first|((first|refine cA (c5 _) ?_ ?_|refine cA (c6 _) ?_ ?_);exact flk;simp (disch:=omega) only[go_sem])|exact tF
 |false=>
  rw[Bool.false_or]
  by_cases g1:k=2
  ·have q1:(k=2)=True:=eqt g1;rw[dqt g1,Bool.true_or];refine acO rN ?_;simp (disch:=omega) only[Za,go_sem]
   repeat' first|((first|refine cA (c5 _) ?_ ?_|refine cA (c6 _) ?_ ?_);exact flk;simp (disch:=omega) only[q1,go_sem])|exact tF
  ·have q1:(k=2)=False:=eqf g1;rw[dqf g1,Bool.false_or];refine acO rN ?_;simp (disch:=omega) only[Za,go_sem]
   repeat' first|((first|refine cA (c5 _) ?_ ?_|refine cA (c6 _) ?_ ?_);exact flk;simp (disch:=omega) only[q1,go_sem])|exact tF
theorem M9(s:Str)(h:up)(hs:s.length<=1000000000):ACalls Tryz.prog 233 [.str s] h (.bool (BF s)) h:=by
 obtain⟨R,hR⟩:=tT (BF s)
 rw[<-hR];unfold BF at hR;refine acO Fg ?_;simp (disch:=omega) only[Dh,go_sem];refine qr (T:=λi:Nat=>qX 22 [(0,.str s),(5,.int .i64 s.length),(6,.int .i64 i)]) (H:=λ_=>h) (inv:=λi=>i<=s.length∧ ∀j,j<i->vU (ch s j)=true) (m:=λi=>s.length-i) 0 ⟨nzl _,λj hj=>by omega⟩ (Wk.temps ?_) ?_
 ·(simp only[go_sem,qg,qc,qa,qf];try exact tS)
 rintro i ⟨i1,i2⟩ K hK
 by_cases hi:i<s.length
 ·have k1:((i:Int)<s.length)=True:=eqt oma;have e:(s[i]?).getD 0=ch s i:=by simp[ch,gdqA]
  have c1:=λh=>IS (ch s i) h
  cases g:vU (ch s i)with
  |false=>
   rw[g]at c1;have hV:R=false:=by
    have:((List.range s.length).all λi=>vU (ch s i))=false:=by
     rw[List.all_eq_false];exact⟨i,List.mem_range.2 hi,by simp[g]⟩
    rw[hR,this,Bool.and_false,Bool.and_false]
   rw[hV];simp (disch:=omega) only[k1,e,go_sem]
   repeat' first|(refine cA (c1 _) flk ?_;simp (disch:=omega) only[go_sem])|exact tF|with_reducible apply aiA|exact clz
  |true=>
   rw[g]at c1;simp (disch:=omega) only[k1,e,go_sem]
   repeat' first|(refine cA (c1 _) flk ?_;simp (disch:=omega) only[go_sem])|with_reducible apply aiA|exact clz
   refine hK _ _ (i+1) ⟨hi,λj hj=> ?_⟩ oma (Wk.temps ?_)
   ·by_cases e':j=i
    ·subst e';exact g
    ·exact i2 j oma
   ·(simp only[go_sem,qg,qc,qa,qf];try exact tS)
 ·have k1:((i:Int)<s.length)=False:=eqf oma;have hA:((List.range s.length).all λi=>vU (ch s i))=true:=by
   rw[List.all_eq_true];intro j hj;exact i2 j (by have:=List.mem_range.1 hj;omega)
  rw[hA,Bool.and_true]at hR
  by_cases g:s= []
  ·have q1:(s= [])=True:=eqt g;rw[hR,dqf (λh=>h g),Bool.false_and];simp (disch:=omega) only[k1,q1,go_sem]
   repeat' first|exact tF
  ·have q1:(s= [])=False:=eqf g;have q2:decide ((s.length:Int)<=64)=decide (s.length<=64):=decide_eq_decide.2 oma;rw[hR,dqt (show s≠ []from g),Bool.true_and];simp (disch:=omega) only[k1,q1,q2,go_sem]
   repeat' first|exact tF
theorem Yl{k:Nat}:1<=(Lib.itoa (k:Int)).length:=by
 rw[Lib.itoa_nonneg]
 by_cases g:k<10
 ·rw[Lib.decDigits,dif_pos g];simp
 ·rw[Lib.decDigits,dif_neg g];simp
theorem Gw{s:Str}(h:dj s=true):3<=s.length∧((s[0]?).getD 0).toNat=91∧((s[s.length-1]?).getD 0).toNat=93∧ ∃v:Int,Lib.atoiAll ((s.drop 1).take (s.length-1-1))= .ok v∧1<=v∧v<=64∧s=91::(Lib.itoa v++ [93]):=by
 unfold dj at h;rw[List.any_eq_true]at h;obtain⟨k,hk,e⟩:=h;have hk':k<64:=by simpa using hk
 have e:=of_decide_eq_true e;have hl:=Yl (k:=k+1);obtain⟨t,ht⟩:=tT (Lib.itoa ((k+1:Nat):Int))
 rw[<-ht]at e hl;have ha:Lib.atoiAll t= .ok ((k+1:Nat):Int):=by rw[ht];exact nW oma oma
 have e1:s.length=t.length+2:=by rw[e];simp
 refine⟨oma,by rw[e];rfl,?_,((k+1:Nat):Int),?_,oma,oma,by rw[<-ht];exact e⟩
 ·rw[e1,e,show t.length+2-1=t.length+1 by omega,List.getElem?_cons_succ,List.getElem?_append_right (nlr _),Nat.sub_self];rfl
 ·rw[<-ha,e1,e];congr 1;simp
theorem Gx{s:Str}{v:Int}(h1:1<=v)(h2:v<=64)(e:s=91::(Lib.itoa v++ [93])):dj s=true:=by
 unfold dj;rw[List.any_eq_true];refine⟨v.toNat-1,by simp;omega,dqt ?_⟩;rw[show ((v.toNat-1+1:Nat):Int)=v by omega];exact e
theorem Pi(s:Str)(h:up)(hs:s.length<=1000000000)(hp:kJ SG h):ACalls Tryz.prog 230 [.str s] h (.bool (dj s)) h:=by
 have hF:= @Gw s;have hM:= @Gx s;obtain⟨R,hR⟩:=tT (dj s)
 rw[<-hR]at hF hM ⊢;have hV: ¬(R=true)->R=false:=by cases R<;>simp
 by_cases g0:s.length<3
 ·have k0:((s.length:Int)<3)=True:=eqt oma;rw[hV (λc=>by have:=(hF c).1;omega)];refine acO xG ?_;simp (disch:=omega) only[aT,k0,go_sem]
  repeat' first|exact tF
 have k0:((s.length:Int)<3)=False:=eqf oma;have k1:((0:Int)<s.length)=True:=eqt oma;have k2:((s.length:Int)-1).toNat=s.length-1:=by omega
 have k3:(0<=(s.length:Int)-1)=True:=eqt oma;have k4:((s.length:Int)-1<=s.length)=True:=eqt oma;have k5:((s.length:Int)-1<s.length)=True:=eqt oma;have k6:((1:Int)<=(s.length:Int)-1)=True:=eqt oma;obtain⟨m,hm⟩:=tT ((s.drop 1).take (s.length-1-1))
 have hml:m.length<=s.length:=by rw[hm];simp;omega
 have em:=hm.symm;rw[em]at hF;obtain⟨a,ha⟩:=tT ((s[0]?).getD 0)
 obtain⟨b,hb⟩:=tT ((s[s.length-1]?).getD 0)
 have ea:=ha.symm;have eb:=hb.symm;rw[ea,eb]at hF
 by_cases g1:a.toNat=91
 case neg=>
  have q1:((a.toNat:Int)=91)=False:=eqf oma;rw[hV (λc=>g1 (hF c).2.1)];refine acO xG ?_;simp (disch:=omega) only[aT,k0,k1,k2,k3,k4,k5,k6,em,ea,eb,q1,Int.toNat_zero,Int.toNat_one,go_sem]
  repeat' first|exact tF|with_reducible apply aiA|exact clz
 have q1:((a.toNat:Int)=91)=True:=eqt oma
 by_cases g2:b.toNat=93
 case neg=>
  have q2:((b.toNat:Int)=93)=False:=eqf oma;rw[hV (λc=>g2 (hF c).2.2.1)];refine acO xG ?_;simp (disch:=omega) only[aT,k0,k1,k2,k3,k4,k5,k6,em,ea,eb,q1,q2,Int.toNat_zero,Int.toNat_one,go_sem]
  repeat' first|exact tF|with_reducible apply aiA|exact clz
 have q2:((b.toNat:Int)=93)=True:=eqt oma;have c180:=t50 m h (SG.err hp) oma;unfold WO at c180;cases hA:Lib.atoiAll m
 case ok v=>
  rw[hA]at c180 hF;simp only at c180;obtain⟨r1,r2⟩:=QU hA;have c181:=t48 v h (SG.pow hp) r1 r2;obtain⟨t,ht⟩:=tT (Lib.itoa v)
  rw[<-ht]at c181
  by_cases g3:1<=v
  case neg=>
   have q3:(1<=v)=False:=eqf g3;rw[hV (λc=>by obtain⟨_,_,_,w,e,w1,_⟩:=hF c;cases e;exact g3 w1)];refine acO xG ?_;simp (disch:=omega) only[aT,k0,k1,k2,k3,k4,k5,k6,em,ea,eb,q1,q2,Int.toNat_zero,Int.toNat_one,go_sem]
   repeat' first|(refine qj ( .str []) ?_;simp (disch:=omega) only[go_sem])|(refine cA (c180) flk ?_;simp (disch:=omega) only[q3,go_sem])|exact tF|(with_reducible first|intro _|apply aiA)|exact clz
  have q3:(1<=v)=True:=eqt g3
  by_cases g4:v<=64
  case neg=>
   have q4:(v<=64)=False:=eqf g4;rw[hV (λc=>by obtain⟨_,_,_,w,e,_,w2,_⟩:=hF c;cases e;exact g4 w2)];refine acO xG ?_;simp (disch:=omega) only[aT,k0,k1,k2,k3,k4,k5,k6,em,ea,eb,q1,q2,Int.toNat_zero,Int.toNat_one,go_sem]
   repeat' first|(refine qj ( .str []) ?_;simp (disch:=omega) only[go_sem])|(refine cA (c180) flk ?_;simp (disch:=omega) only[q3,q4,go_sem])|exact tF|with_reducible apply aiA|exact clz
  have q4:(v<=64)=True:=eqt g4
  by_cases g5:s=91::(t++ [93])
  ·have q5:(s=91::(t++ [93]))=True:=eqt g5;have htl:t.length<=9:=by
    obtain⟨n,rfl⟩: ∃n:Nat,v=n:=⟨v.toNat,oma⟩
    rw[ht];exact fw oma
   rw[hM g3 g4 (by rw[<-ht];exact g5)];refine acO xG ?_;simp (disch:=omega) only[aT,k0,k1,k2,k3,k4,k5,k6,em,ea,eb,q1,q2,Int.toNat_zero,Int.toNat_one,go_sem]
   repeat' first|((first|refine cA (c180) ?_ ?_|refine cG (λe=>c181) ?_ ?_);exact flk;simp (disch:=omega) only[q3,q4,q5,go_sem])|exact tF|with_reducible apply aiA|exact clz
  ·have q5:(s=91::(t++ [93]))=False:=eqf g5;have htl:t.length<=9:=by
    obtain⟨n,rfl⟩: ∃n:Nat,v=n:=⟨v.toNat,oma⟩
    rw[ht];exact fw oma
   rw[hV (λc=>by obtain⟨_,_,_,w,e,_,_,w3⟩:=hF c;cases e;exact g5 (by rw[ht];exact w3))];refine acO xG ?_;simp (disch:=omega) only[aT,k0,k1,k2,k3,k4,k5,k6,em,ea,eb,q1,q2,Int.toNat_zero,Int.toNat_one,go_sem]
   repeat' first|((first|refine cA (c180) ?_ ?_|refine cG (λe=>c181) ?_ ?_);exact flk;simp (disch:=omega) only[q3,q4,q5,go_sem])|exact tF|with_reducible apply aiA|exact clz
 all_goals
  rw[hA]at c180 hF;simp only at c180;rw[hV (λc=>by obtain⟨_,_,_,w,e,_⟩:=hF c;cases e)];refine acO xG ?_;simp (disch:=omega) only[aT,k0,k1,k2,k3,k4,k5,k6,em,ea,eb,q1,q2,Int.toNat_zero,Int.toNat_one,go_sem]
  repeat' first|(refine qj ( .str []) ?_;simp (disch:=omega) only[go_sem])|(refine cA (c180) flk ?_;simp (disch:=omega) only[go_sem])|exact tF|(with_reducible first|intro _|apply aiA)|exact clz
theorem IW: ∀f:Nat,f<32->QE .i64 (f:Int) 2=if f.testBit 1 then 2 else 0:=by decide+kernel
theorem IY: ∀f:Nat,f<32->QE .i64 (f:Int) 8=if f.testBit 3 then 8 else 0:=by decide+kernel
theorem BU: ∀f:Nat,f<32->QE .i64 (f:Int) 10=(if f.testBit 1 then 2 else 0)+if f.testBit 3 then 8 else 0:=by decide+kernel
theorem Ol(t:Tk)(f:Nat)(h:up)(hf:t.flags=f)(hf2:f<32):ACalls Tryz.prog 232 [.agg (tkC t)] h (.bool (!mb t.flags&& !mkB t.flags)) h:=by
 have e1:=BU f hf2;have eg:mb t.flags=f.testBit 1:=by unfold mb;rw[hf,itn]
 have ek:mkB t.flags=f.testBit 3:=by unfold mkB;rw[hf,itn]
 rw[eg,ek];cases g1:f.testBit 1<;>cases g2:f.testBit 3<;>rw[g1,g2]at e1<;>simp only[Bool.false_eq_true,if_false,if_true,Int.add_zero,Int.zero_add]at e1
 all_goals
  refine acO Ff ?_;simp (disch:=omega) only[Df,tkC,hf,e1,go_sem]
  repeat' first|exact tE
structure Vy (t:Tk):Prop where
 tx:t.text.length<=1000000000
 nm:t.norm.length<=1000000000
 pg:t.page.length<=1000000000
 na:t.name.length<=1000000000
theorem tkP(t:Tk)(h:up)(hz:Vy t)(hp:kJ SG h):ACalls Tryz.prog 174 [.agg (tkC t)] h (.int .i64 (tkE t)) h:=by
 obtain⟨R,hR⟩:=tT (tkE t)
 rw[<-hR];unfold tkE at hR
 by_cases g1:t.flags<0
 ·have k1:(t.flags<0)=True:=eqt g1;rw[ipo (.inl g1)]at hR;rw[hR];refine acO jj ?_;simp (disch:=omega) only[ky,tkC,go_sem]
  repeat' first|(apply qb;exact rvk;simp only[go_sem];first|exact qi|apply qh)|(with_reducible first|intro _|apply aiA)|exact clz
 have k1:(t.flags<0)=False:=eqf g1
 by_cases g2:31<t.flags
 ·have k2:((31:Int)<t.flags)=True:=eqt g2;rw[ipo (.inr g2)]at hR;rw[hR];refine acO jj ?_;simp (disch:=omega) only[ky,tkC,go_sem]
  repeat' first|(apply qb;exact rvk;simp only[go_sem];first|exact qi|apply qh)|(with_reducible first|intro _|apply aiA)|exact clz
 have k2:((31:Int)<t.flags)=False:=eqf g2;rw[ine oma]at hR;obtain⟨f,hf⟩: ∃f:Nat,t.flags=(f:Int):=⟨t.flags.toNat,oma⟩
 have hf2:f<32:=by omega
 have e2:=IW f hf2;have e8:=IY f hf2;have eg:mb t.flags=f.testBit 1:=by unfold mb;rw[hf,itn]
 have ek:mkB t.flags=f.testBit 3:=by unfold mkB;rw[hf,itn]
 have cI:=λh=>Ol t f h hf hf2
 have cP:=λl=>M8 t.page (h++l) hz.pg
 have cM:=λl=>M8 t.name (h++l) hz.na
 have hG:=λl=>Pi t.text (h++l) hz.tx (hp.app l)
 have cK:=λl=>PO t.text (h++l) hz.tx
 have cW:=λl=>t88 t.text (h++l) hz.tx
 have cN:=λl=>M9 t.norm (h++l) hz.nm
 unfold txB at hR;rw[eg,ek]at hR cI;obtain⟨bp,hbp⟩: ∃b,b=sF t.page:=⟨_,rfl⟩
 obtain⟨bm,hbm⟩: ∃b,b=sF t.name:=⟨_,rfl⟩
 obtain⟨bg,hbg⟩: ∃b,b=dj t.text:=⟨_,rfl⟩
 obtain⟨bk,hbk⟩: ∃b,b=BE t.text:=⟨_,rfl⟩
 obtain⟨bw,hbw⟩: ∃b,b=km t.text:=⟨_,rfl⟩
 obtain⟨bn,hbn⟩: ∃b,b=BF t.norm:=⟨_,rfl⟩
 rw[<-hbp,<-hbm,<-hbg,<-hbk,<-hbw,<-hbn]at hR;simp only[<-hbp]at cP;simp only[<-hbm]at cM;simp only[<-hbg]at hG;simp only[<-hbk]at cK;simp only[<-hbw]at cW;simp only[<-hbn]at cN;unfold tkC at cI;rw[hf]at cI k1 k2;cases ga:f.testBit 1<;>cases gb:f.testBit 3<;>rw[ga]at e2 hR cI<;>rw[gb]at e8 hR cI<;>simp only[Bool.false_eq_true,if_true,if_false,and_true,and_false,Bool.not_false,Bool.not_true,Bool.and_false,Bool.and_true]at e2 e8 hR cI
 ·cases bw with
  |false=>
   rw[Bool.false_and,ipo rfl]at hR;rw[hR];refine acO jj ?_;simp (disch:=omega) only[ky,tkC,hf,k1,k2,e2,e8,go_sem]
   repeat' first|(refine qE (cW _) ?_;simp (disch:=omega) only[go_sem])|exact tE
  |true=>
  rw[Bool.true_and]at hR;cases bn with
  |false=>
   rw[ipo rfl]at hR;rw[hR];refine acO jj ?_;simp (disch:=omega) only[ky,tkC,hf,k1,k2,e2,e8,go_sem]
   repeat' first|(refine qE (cW _) ?_;simp (disch:=omega) only[go_sem])|((first|refine cA (cI _) ?_ ?_|refine cG (λe=>cN _) ?_ ?_);exact flk;simp (disch:=omega) only[go_sem])|exact tE
  |true=>
   rw[ine (by simp)]at hR
   by_cases g4:t.line<0
   ·have k4:(t.line<0)=True:=eqt g4;rw[ipo g4]at hR;rw[hR];refine acO jj ?_;simp (disch:=omega) only[ky,tkC,hf,k1,k2,e2,e8,go_sem]
    repeat' first|(refine qE (cW _) ?_;simp (disch:=omega) only[k4,go_sem])|((first|refine cA (cI _) ?_ ?_|refine cG (λe=>cN _) ?_ ?_);exact flk;simp (disch:=omega) only[k4,go_sem])|(apply qb;exact rvk;simp only[go_sem];first|exact qi|apply qh)|(with_reducible first|intro _|apply aiA)|exact clz
   have k4:(t.line<0)=False:=eqf g4;rw[ine g4]at hR;cases bp with
   |false=>
    rw[ipo (.inl rfl)]at hR;rw[hR];refine acO jj ?_;simp (disch:=omega) only[ky,tkC,hf,k1,k2,e2,e8,go_sem]
    repeat' first|(refine qE (cW _) ?_;simp (disch:=omega) only[k4,go_sem])|(refine qj ( .bool false) ?_;simp (disch:=omega) only[go_sem])|((first|refine cA (cI _) ?_ ?_|refine cG (λe=>cN _) ?_ ?_|refine cA (cP _) ?_ ?_);exact flk;simp (disch:=omega) only[k4,go_sem])|(apply qb;exact rvk;simp only[go_sem];first|exact qi|apply qh)|(with_reducible first|intro _|apply aiA)|exact clz
   |true=>
   cases bm with
   |false=>
    rw[ipo (.inr rfl)]at hR;rw[hR];refine acO jj ?_;simp (disch:=omega) only[ky,tkC,hf,k1,k2,e2,e8,go_sem]
    repeat' first|(refine qE (cW _) ?_;simp (disch:=omega) only[k4,go_sem])|((first|refine cA (cI _) ?_ ?_|refine cG (λe=>cN _) ?_ ?_|refine cA (cP _) ?_ ?_|refine cG (λe=>cM _) ?_ ?_);exact flk;simp (disch:=omega) only[k4,go_sem])|(apply qb;exact rvk;simp only[go_sem];first|exact qi|apply qh)|(with_reducible first|intro _|apply aiA)|exact clz
   |true=>
    rw[ine (by simp)]at hR;rw[hR];refine acO jj ?_;simp (disch:=omega) only[ky,tkC,hf,k1,k2,e2,e8,go_sem]
    repeat' first|(refine qE (cW _) ?_;simp (disch:=omega) only[k4,go_sem])|((first|refine cA (cI _) ?_ ?_|refine cG (λe=>cN _) ?_ ?_|refine cA (cP _) ?_ ?_|refine cG (λe=>cM _) ?_ ?_);exact flk;simp (disch:=omega) only[k4,go_sem])|(apply qb;exact rvk;simp only[go_sem];first|exact qi|apply qh)|(with_reducible first|intro _|apply aiA)|exact clz
 ·cases bk with
  |false=>
   rw[Bool.false_and,ipo rfl]at hR;rw[hR];refine acO jj ?_;simp (disch:=omega) only[ky,tkC,hf,k1,k2,e2,e8,go_sem]
   repeat' first|(refine qE (cK _) ?_;simp (disch:=omega) only[go_sem])|(apply qb;exact rvk;simp only[go_sem];first|exact qi|apply qh)|(with_reducible first|intro _|apply aiA)|exact clz
  |true=>
  rw[Bool.true_and]at hR
  by_cases g3:t.norm=t.text
  ·have k3:(t.norm=t.text)=True:=eqt g3;rw[dqt g3,ine (by simp)]at hR
   by_cases g4:t.line<0
   ·have k4:(t.line<0)=True:=eqt g4;rw[ipo g4]at hR;rw[hR];refine acO jj ?_;simp (disch:=omega) only[ky,tkC,hf,k1,k2,e2,e8,go_sem]
    repeat' first|(refine qE (cK _) ?_;simp (disch:=omega) only[k4,go_sem])|(refine qj ( .bool false) ?_;simp (disch:=omega) only[k4,go_sem])|(refine cA (cI _) flk ?_;simp (disch:=omega) only[k3,k4,go_sem])|(apply qb;exact rvk;simp only[go_sem];first|exact qi|apply qh)|(with_reducible first|intro _|apply aiA)|exact clz
   have k4:(t.line<0)=False:=eqf g4;rw[ine g4]at hR;cases bp with
   |false=>
    rw[ipo (.inl rfl)]at hR;rw[hR];refine acO jj ?_;simp (disch:=omega) only[ky,tkC,hf,k1,k2,e2,e8,go_sem]
    repeat' first|(refine qE (cK _) ?_;simp (disch:=omega) only[k4,go_sem])|(refine qj ( .bool false) ?_;simp (disch:=omega) only[k4,go_sem])|((first|refine cA (cI _) ?_ ?_|refine cA (cP _) ?_ ?_);exact flk;simp (disch:=omega) only[k3,k4,go_sem])|(apply qb;exact rvk;simp only[go_sem];first|exact qi|apply qh)|(with_reducible first|intro _|apply aiA)|exact clz
   |true=>
   cases bm with
   |false=>
    rw[ipo (.inr rfl)]at hR;rw[hR];refine acO jj ?_;simp (disch:=omega) only[ky,tkC,hf,k1,k2,e2,e8,go_sem]
    repeat' first|(refine qE (cK _) ?_;simp (disch:=omega) only[k4,go_sem])|(refine qj ( .bool false) ?_;simp (disch:=omega) only[k4,go_sem])|((first|refine cA (cI _) ?_ ?_|refine cA (cP _) ?_ ?_|refine cG (λe=>cM _) ?_ ?_);exact flk;simp (disch:=omega) only[k3,k4,go_sem])|(apply qb;exact rvk;simp only[go_sem];first|exact qi|apply qh)|(with_reducible first|intro _|apply aiA)|exact clz
   |true=>
    rw[ine (by simp)]at hR;rw[hR];refine acO jj ?_;simp (disch:=omega) only[ky,tkC,hf,k1,k2,e2,e8,go_sem]
    repeat' first|(refine qE (cK _) ?_;simp (disch:=omega) only[k4,go_sem])|(refine qj ( .bool false) ?_;simp (disch:=omega) only[k4,go_sem])|((first|refine cA (cI _) ?_ ?_|refine cA (cP _) ?_ ?_|refine cG (λe=>cM _) ?_ ?_);exact flk;simp (disch:=omega) only[k3,k4,go_sem])|(apply qb;exact rvk;simp only[go_sem];first|exact qi|apply qh)|(with_reducible first|intro _|apply aiA)|exact clz
  ·have k3:(t.norm=t.text)=False:=eqf g3;rw[dqf g3,ipo rfl]at hR;rw[hR];refine acO jj ?_;simp (disch:=omega) only[ky,tkC,hf,k1,k2,e2,e8,go_sem]
   repeat' first|(refine qE (cK _) ?_;simp (disch:=omega) only[go_sem])|(refine qj ( .bool false) ?_;simp (disch:=omega) only[go_sem])|(refine cA (cI _) flk ?_;simp (disch:=omega) only[k3,go_sem])|(apply qb;exact rvk;simp only[go_sem];first|exact qi|apply qh)|(with_reducible first|intro _|apply aiA)|exact clz
 ·cases bg with
  |false=>
   rw[Bool.false_and,ipo rfl]at hR;rw[hR];refine acO jj ?_;simp (disch:=omega) only[ky,tkC,hf,k1,k2,e2,e8,go_sem]
   repeat' first|(refine qE (hG _) ?_;simp (disch:=omega) only[go_sem])|exact tE|(with_reducible first|intro _|apply aiA)|exact clz
  |true=>
  rw[Bool.true_and]at hR
  by_cases g3:t.norm=t.text
  ·have k3:(t.norm=t.text)=True:=eqt g3;rw[dqt g3,ine (by simp)]at hR
   by_cases g4:t.line<0
   ·have k4:(t.line<0)=True:=eqt g4;rw[ipo g4]at hR;rw[hR];refine acO jj ?_;simp (disch:=omega) only[ky,tkC,hf,k1,k2,e2,e8,go_sem]
    repeat' first|(refine qE (hG _) ?_;simp (disch:=omega) only[k4,go_sem])|(refine qj ( .bool false) ?_;simp (disch:=omega) only[k4,go_sem])|(refine cA (cI _) flk ?_;simp (disch:=omega) only[k3,k4,go_sem])|exact tE|(with_reducible first|intro _|apply aiA)|exact clz
   have k4:(t.line<0)=False:=eqf g4;rw[ine g4]at hR;cases bp with
   |false=>
    rw[ipo (.inl rfl)]at hR;rw[hR];refine acO jj ?_;simp (disch:=omega) only[ky,tkC,hf,k1,k2,e2,e8,go_sem]
    repeat' first|(refine qE (hG _) ?_;simp (disch:=omega) only[k4,go_sem])|(refine qj ( .bool false) ?_;simp (disch:=omega) only[k4,go_sem])|((first|refine cA (cI _) ?_ ?_|refine cA (cP _) ?_ ?_);exact flk;simp (disch:=omega) only[k3,k4,go_sem])|exact tE|(with_reducible first|intro _|apply aiA)|exact clz
   |true=>
   cases bm with
   |false=>
    rw[ipo (.inr rfl)]at hR;rw[hR];refine acO jj ?_;simp (disch:=omega) only[ky,tkC,hf,k1,k2,e2,e8,go_sem]
    repeat' first|(refine qE (hG _) ?_;simp (disch:=omega) only[k4,go_sem])|(refine qj ( .bool false) ?_;simp (disch:=omega) only[k4,go_sem])|((first|refine cA (cI _) ?_ ?_|refine cA (cP _) ?_ ?_|refine cG (λe=>cM _) ?_ ?_);exact flk;simp (disch:=omega) only[k3,k4,go_sem])|exact tE|(with_reducible first|intro _|apply aiA)|exact clz
   |true=>
    rw[ine (by simp)]at hR;rw[hR];refine acO jj ?_;simp (disch:=omega) only[ky,tkC,hf,k1,k2,e2,e8,go_sem]
    repeat' first|(refine qE (hG _) ?_;simp (disch:=omega) only[k4,go_sem])|(refine qj ( .bool false) ?_;simp (disch:=omega) only[k4,go_sem])|((first|refine cA (cI _) ?_ ?_|refine cA (cP _) ?_ ?_|refine cG (λe=>cM _) ?_ ?_);exact flk;simp (disch:=omega) only[k3,k4,go_sem])|exact tE|(with_reducible first|intro _|apply aiA)|exact clz
  ·have k3:(t.norm=t.text)=False:=eqf g3;rw[dqf g3,ipo rfl]at hR;rw[hR];refine acO jj ?_;simp (disch:=omega) only[ky,tkC,hf,k1,k2,e2,e8,go_sem]
   repeat' first|(refine qE (hG _) ?_;simp (disch:=omega) only[go_sem])|(refine qj ( .bool false) ?_;simp (disch:=omega) only[go_sem])|(refine cA (cI _) flk ?_;simp (disch:=omega) only[k3,go_sem])|exact tE|(with_reducible first|intro _|apply aiA)|exact clz
 ·rw[hR];refine acO jj ?_;simp (disch:=omega) only[ky,tkC,hf,k1,k2,e2,e8,go_sem]
  repeat' first|exact tE|(with_reducible first|intro _|apply aiA)|exact clz
end RC
end
section
open Go Go.Proofs AF
def vG:List Nat:= []
theorem L6:qJ Tryz.prog 33 9 0 [RV.tmp 4] (cCT 92):=fi Tryz.f33 [] vG []
theorem VN:qJ Tryz.prog 102 19 0 [RV.tmp 4] (cIF 2 (some 2)):=fi Tryz.f102 [] vG []
theorem Gk:qJ Tryz.prog 92 19 0 [RV.tmp 4] (cIF 3 (some 3)):=fi Tryz.f92 [] vG []
theorem VQ:qJ Tryz.prog 172 9 0 [RV.tmp 4] (cCT 229):=fi Tryz.f172 [] vG []
theorem VW:qJ Tryz.prog 229 19 0 [RV.tmp 4] (cIF 6 (some 6)):=fi Tryz.f229 [] vG []
theorem Fh:qJ Tryz.prog 235 9 0 [RV.tmp 4] (cCT 272):=fi Tryz.f235 [] vG []
def W2:C:=
 (ph [MC 6 (.bool false)] ((ph [MV 10 0,O1 11 .len 10,MV 12 1,O1 13 .len 12,BI 14 .neq 11 13] (pk 14 (p8 [MC 6 (.bool false)]))).seq ((ph [MV 15 0,O1 16 .len 15,oE 17 0] (C.block
 0 (ph [BI 18 .lss 17 16] ((p7 18 0).seq ((C.block 1 (ph [MV 19 17,O2 20 (.idxA 2) 15 17,O1 21 (.load (some 2)) 20,⟨some 8,none,.alloc 0 97 [.nl,.nl],[]⟩,MV 7 19,ST 2 8 21] (ph
 [MV 22 1,MV 23 7,O2 24 (.idxA 2) 22 23,O1 25 (.load (some 2)) 24,⟨some 9,none,.alloc 1 97 [.nl,.nl],[]⟩,ST 2 9 25] (ph [MV 26 2,O1 27 (.load (some 2)) 8,O1 28 (.load (some 2))
 9,ON 29 .callv [.t 26,.t 27,.t 28],O1 30 (.un UnOp.not) 29] (pk 30 (p8 [MC 6 (.bool false)])))))).seq (p9 [oF 31 .add 17 1,MV 17 31])))).loop)).seq (p8 [MC 6 (.bool true)]))))
theorem VY:qJ Tryz.prog 237 32 2 [RV.tmp 6] W2:=fi Tryz.f237 [8,9] vG []
theorem FD:qJ Tryz.prog 272 19 0 [RV.tmp 4] (cIF 1 none):=fi Tryz.f272 [] vG []
end
