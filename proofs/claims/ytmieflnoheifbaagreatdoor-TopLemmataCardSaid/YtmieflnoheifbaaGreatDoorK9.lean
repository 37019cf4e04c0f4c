import Derived.Test.YtmieflnoheifbaaGreatDoorK8
import Derived.Test.YtmieflnoheifbaaGreatDoorK3
import Derived.Test.YtmieflnoheifbaaGreatDoorK5
import Derived.Test.YtmieflnoheifbaaGreatDoorProg
import Derived.Test.YtmieflnoheifbaaGreatDoorK4
import Derived.Below
import Derived.Test.YtmieflnoheifbaaGreatDoorK1
import Derived.Lib.AppendIntMem
import Derived.Stop.LaidErr
import Derived.Lib.ItoaLen
set_option linter.all false
set_option maxHeartbeats 64000000
set_option maxRecDepth 100000
section
open Go Go.Proofs AF HY
namespace HY
theorem qE6(c:UInt8)(h:we):ACalls Tryz.prog 222 [.int .u8 (c.toNat:Int)] h (.bool (spc c)) h:=by
 refine qx qyr (by simp) ?_;simp only[lco,lnl,Nat.reduceAdd,Nat.reduceSub,List.replicate,lca,lna,lan];simp (disch:=omega) only[qwR,go_sem]
 repeat' first|(refine qI (qa7 c _) ?_ ?_;exact flk;simp (disch:=omega) only[go_sem])|exact v8|fail
def gJ(s:List UInt8):AV:= .sl s.length λi=> [.int .u8 ((s.getD i 0).toNat:Int)]
def qbq(p:UInt8->Bool):List UInt8->Nat->Int
 | [],_=> -1
 |c::r,i=>if p c=true then i else qbq p r (i+1)
theorem qkU(p:UInt8->Bool): ∀(s:List UInt8) (i:Nat),(0<=qbq p s i↔s.any p=true)∧ -1<=qbq p s i:=by
 intro s
 induction s with
 |nil=>intro i;simp[qbq]
 |cons c r ih=>
  intro i
  by_cases hc:p c=true
  ·have e:qbq p (c::r) i=i:=ipo hc;rw[e,List.any_cons,hc];simp
   try omega
  ·have e:qbq p (c::r) i=qbq p r (i+1):=ine hc;rw[e,List.any_cons];have hc':p c=false:=by simpa using hc
   rw[hc',Bool.false_or];exact ih (i+1)
theorem qkT(p:UInt8->Bool)(s:List UInt8)(i:Nat):decide (0<=qbq p s i)=s.any p:=by
 rw[Bool.eq_iff_iff,decide_eq_true_eq];exact (qkU p s i).1
theorem qE9(s:List UInt8)(p:UInt8->Bool)(F:Nat)(h:we)(hs:s.length<=1000000000)(hp: ∀(c:UInt8) (h:we),ACalls Tryz.prog F [.int .u8 (c.toNat:Int)] h (.bool (p c)) h):ACalls Tryz.prog 282 [gJ s,.fn (.func F) [] []] h (.int .i64 (qbq p s 0)) h:=by
 refine qx qyI (by simp) ?_;simp only[lco,lnl,Nat.reduceAdd,Nat.reduceSub,List.replicate,lca,lna,lan];simp (disch:=omega) only[qw5,gJ,go_sem];refine qt (T:=λi:Nat=>zg 19 [(0,gJ s),(1,.fn (.func F) [] []),(6,gJ s),(7,.int .i64 s.length),(8,.int .i64 i)]) (H:=λ_=>h) (inv:=λi=>i<=s.length∧qbq p s 0=qbq p (s.drop i) i) (m:=λi=>s.length-i) 0 ⟨om,by simp⟩ (Wk.temps ?_) ?_
 ·(simp only[gJ,zg,List.foldl,go_sem,qh,qf,qb,qg];try exact wa)
 ·rintro i ⟨i1,i2⟩ K hK;rw[i2]
  by_cases hi:i<s.length
  ·have e:s.drop i=s.getD i 0::s.drop (i+1):=by rw[List.drop_eq_getElem_cons hi];simp[gdqA,hi]
   rw[e]at i2 ⊢;simp only[qbq]at i2 ⊢;have hpc:=λh=>hp (s.getD i 0) h
   cases hb:p (s.getD i 0)with
   |true=>
    rw[hb]at hpc;simp (disch:=omega) only[zg,List.foldl,gJ,go_sem]
    repeat' first|(refine qF (hpc _) ?_;simp (disch:=omega) only[go_sem,qm])|(apply qc;exact rvk;simp only[go_sem];first|exact qi|apply qe)|(with_reducible first|intro _|apply aiA)|exact clz|fail
   |false=>
    rw[hb]at hpc i2;simp (disch:=omega) only[zg,List.foldl,gJ,go_sem]
    repeat' first|(refine qF (hpc _) ?_;simp (disch:=omega) only[go_sem,qm])|(apply qc;exact rvk;simp only[go_sem];apply qe)|(with_reducible first|intro _|apply aiA)|exact clz|fail
    refine hK _ _ (i+1) ⟨om,by rw[i2];simp⟩ om (Wk.temps ?_)
    (simp only[gJ,zg,List.foldl,go_sem,qh,qf,qb,qg];try exact wa)
  ·have e:i=s.length:=by omega
   subst e;rw[List.drop_length];simp (disch:=omega) only[zg,List.foldl,gJ,go_sem]
   repeat' first|exact v8|(with_reducible first|intro _|apply aiA)|exact clz|fail
theorem qE5(s:List UInt8)(p:UInt8->Bool)(F:Nat)(h:we)(hs:s.length<=1000000000)(hp: ∀(c:UInt8) (h:we),ACalls Tryz.prog F [.int .u8 (c.toNat:Int)] h (.bool (p c)) h):ACalls Tryz.prog 221 [gJ s,.fn (.func F) [] []] h (.bool (s.any p)) h:=by
 rw[<-qkT p s 0];refine qx qyq (by simp) ?_;simp only[lco,lnl,Nat.reduceAdd,Nat.reduceSub,List.replicate,lca,lna,lan];simp (disch:=omega) only[qwQ,gJ,go_sem]
 repeat' first|(refine qI (qE9 s p F _ hs hp) ?_ ?_;exact flk;simp (disch:=omega) only[go_sem])|exact v8|fail
theorem t88(s:List UInt8)(h:we)(hs:s.length<=1000000000):ACalls Tryz.prog 145 [.str s] h (.bool (jr s)) h:=by
 obtain⟨c,hc⟩:=wc (zG s)
 have h104: ∀h:we,ACalls Tryz.prog 219 [.str s] h (.int .i64 c) h:=λh=>by rw[hc];exact qC3 s h hs
 have hw:jr s=(decide (0<s.length)&&decide (s.length<=64)&&decide (c=0)&&(decide (kind (ch s 0)=1)||decide (kind (ch s 0)=3))&& !(s.any spc)):=by rw[hc];rfl
 rw[hw]
 by_cases g1:0<s.length
 ·have k1:(s= [])=False:=eqf (by intro e;rw[e]at g1;simp at g1)
  by_cases g2:s.length<=64
  ·have k2:(64<(s.length:Int))=False:=wi
   by_cases g3:c=0
   ·refine qx qgt (by simp) ?_;simp only[lco,lnl,Nat.reduceAdd,Nat.reduceSub,List.replicate,lca,lna,lan];simp (disch:=omega) only[qj5,k1,k2,g3,go_sem]
    repeat' first|((first|refine qI (qa7 _ _) ?_ ?_|refine qI (qE5 s spc 222 _ hs qE6) ?_ ?_);exact flk;simp (disch:=omega) only[go_sem])|(refine qN (λe=>⟨?_,h104 _⟩) ?_;exact flk;simp (disch:=omega) only[g3,jP,go_sem])|(apply qc;exact rvk;simp only[go_sem];apply qd)|(with_reducible first|intro _|apply aiA)|exact clz|fail
    all_goals (generalize s.any spc=b;grind)
   ·refine qx qgt (by simp) ?_;simp only[lco,lnl,Nat.reduceAdd,Nat.reduceSub,List.replicate,lca,lna,lan];simp (disch:=omega) only[qj5,k1,k2,go_sem]
    repeat' first|(refine qN (λe=>⟨?_,h104 _⟩) ?_;exact flk;simp (disch:=omega) only[g3,jP,go_sem])|exact v8|fail
    all_goals (generalize s.any spc=b;grind)
  ·have k2:(64<(s.length:Int))=True:=wh;refine qx qgt (by simp) ?_;simp only[lco,lnl,Nat.reduceAdd,Nat.reduceSub,List.replicate,lca,lna,lan];simp (disch:=omega) only[qj5,k1,k2,go_sem]
   repeat' first|(refine ql ((.int .i64 0)) ?_;simp (disch:=omega) only[go_sem])|(apply qc;exact rvk;simp only[go_sem];apply qd)
   all_goals (generalize s.any spc=b;grind)
 ·have e:s= []:=List.eq_nil_of_length_eq_zero om;subst e;refine qx qgt (by simp) ?_;simp only[lco,lnl,Nat.reduceAdd,Nat.reduceSub,List.replicate,lca,lna,lan];simp (disch:=omega) only[qj5,go_sem]
  repeat' first|(refine ql ((.int .i64 0)) ?_;simp (disch:=omega) only[go_sem])|exact v8|fail
  all_goals (generalize List.any _ spc=b;grind)
end HY
end
section
open Go Go.Proofs AF
def dr:List Nat:= [249,175,179,251,306,307,355,381,178]
theorem qCg:qK Tryz.prog 18 26 0 [RV.tmp 4] cEQ:=fi Tryz.f18 [] dr []
theorem qCi:qK Tryz.prog 30 26 0 [RV.tmp 4] cEQ:=fi Tryz.f30 [] dr []
theorem qx0:qK Tryz.prog 128 9 0 [RV.tmp 4] (cCT 125):=fi Tryz.f128 [] dr []
theorem qxZ:qK Tryz.prog 125 19 0 [RV.tmp 4] cIX:=fi Tryz.f125 [] dr []
theorem qyw:qK Tryz.prog 239 19 0 [RV.tmp 4] (cIF 1 none):=fi Tryz.f239 [] dr []
def qsU:C:=
 (vS [MC 4 (.str []),MC 5 (.bool false)] (vV [MV 6 0,MV 7 1,O2 8 (.call 308 true) 6 7,O1 9 (.ext 0) 8,O1 10 (.ext 1) 8,MV 4 9,MV 5 10]))
theorem qrN:qK Tryz.prog 254 11 0 [RV.tmp 4,RV.tmp 5] qsU:=fi Tryz.f254 [] dr []
def qsL:C:=
 (vS [O1 1 (.box 0 90) 0,vM 2 0] ((C.block 0 (vS [vL 4 0 1,LD 5 4,O1 6 (.call 190 true) 5,O1 7 (.un UnOp.not) 6,MV 8 7,vZ 9 8 1 1,v6 10 8 9,vR 11 8 (.bin .neq) 10 (.str []),vQ 12
 8 11,P1 13 12 true (.fldA 1) 1,P1 14 12 true (.load none) 13,P1 15 12 true (.call 190 true) 14,P1 16 12 true (.un UnOp.not) 15,QF 17 8 false 12 16,PT 18 8 17,MV 3 18] (C.cond
 (.t 3) (vV [vM 2 11]) (vS [vL 20 2 1,LD 21 20,vN 22 .lss 21 0,MV 23 22,vZ 24 23 2 1,v6 25 23 24,vR 26 23 (.bin .gtr) 25 (i6 65536),PT 27 23 26,MV 19 27] (vT 19 (vV [vM 2
 2])))))).seq (vV [vM 2 0])))
theorem qrD:qK Tryz.prog 115 28 1 [RV.tmp 2] qsL:=fi Tryz.f115 [1] dr []
def qj8:C:=
 (vS [MC 4 (.str []),MC 5 (.bool false)] ((vS [MV 6 0,MV 7 1,O2 8 (.call 356 true) 6 7,O1 9 (.un UnOp.not) 8] (vT 9 (vV [MV 10 0,MV 4 10,MC 5 (.bool false)]))).seq (vV [MV 11
 0,MV 12 0,O1 13 .slen 12,MV 14 1,O1 15 .slen 14,BI 16 .sub 13 15,O2 17 (.sslc false true) 11 16,MV 4 17,MC 5 (.bool true)])))
theorem qgw:qK Tryz.prog 308 18 0 [RV.tmp 4,RV.tmp 5] qj8:=fi Tryz.f308 [] dr []
def qoH:C:=
 (vS [MC 2 (.bool false)] ((vS [MV 9 0,O1 10 (.call 145 true) 9] (vT 10 (vV [MC 2 (.bool true)]))).seq ((vS [MV 11 0,O1 12 .slen 11,vN 13 .eql 12 1] (vT 13 (vS [MV 14 0,OC 15
 .sidx 14 (i6 0),O1 16 (.call 220 true) 15,MV 3 16] (vV [MV 17 3,vN 18 .eql 17 5,MV 19 18,vQ 20 19 3,vR 21 19 (.bin .eql) 20 (i6 4),PT 22 19 21,MV 2 22])))).seq (vS [MV 24 0,OC
 25 (.call 264 true) 24 (.str [91]),MV 23 25,O1 26 (.ext 0) 23,O1 27 (.ext 1) 23,MV 4 26,MV 5 27] (vS [MV 29 4,OC 30 (.call 254 true) 29 (.str [93]),MV 28 30,O1 31 (.ext 0)
 28,O1 32 (.ext 1) 28,MV 4 31,MV 6 32] (vS [MV 34 4,O1 35 (.call 119 true) 34,MV 33 35,O1 36 (.ext 0) 33,O1 37 (.ext 1) 33,MV 7 36,MV 8 37] (vV [MV 38 5,MV 39 38,MG 40 39 true
 6,PF 41 39 40,MV 42 41,MG 43 42 true 8,PF 44 42 43,MV 45 44,MG 46 45 true 7,PC 47 45 true (.bin .leq) 46 (i6 64),PF 48 45 47,MV 2 48])))))))
theorem qk7:qK Tryz.prog 190 49 0 [RV.tmp 2] qoH:=fi Tryz.f190 [] dr []
def qw1:C:=
 (vS [MC 4 (.str []),MC 5 (.bool false)] (vV [MV 6 0,MV 7 1,O2 8 (.call 311 true) 6 7,O1 9 (.ext 0) 8,O1 10 (.ext 1) 8,MV 4 9,MV 5 10]))
theorem qyE:qK Tryz.prog 264 11 0 [RV.tmp 4,RV.tmp 5] qw1:=fi Tryz.f264 [] dr []
def qht:C:=
 (vS [vM 2 0,MC 3 (.bool false)] (vS [MV 7 0,O1 8 (.call 195 true) 7,MV 6 8,O1 9 (.ext 0) 6,O1 10 (.ext 1) 6,MV 4 9,MV 5 10] (vV [MV 11 4,MV 12 5,O1 13 (.isnil .iface false)
 12,MV 14 13,MG 15 14 true 4,PC 16 14 true (.bin .geq) 15 (i6 1),PF 17 14 16,MV 18 17,MG 19 18 true 0,P1 20 18 true .slen 19,PC 21 18 true (.bin .leq) 20 (i6 9),PF 22 18 21,MV
 23 22,MG 24 23 true 4,P1 25 23 true (.call 116 true) 24,MG 26 23 true 0,P2 27 23 true (.bin .eql) 25 26,PF 28 23 27,MV 2 11,MV 3 28])))
theorem qet:qK Tryz.prog 119 29 0 [RV.tmp 2,RV.tmp 3] qht:=fi Tryz.f119 [] dr []
def qs0:C:=
 (vS [MC 4 (.str []),MC 5 (.bool false)] ((vS [MV 6 0,MV 7 1,O2 8 (.call 358 true) 6 7,O1 9 (.un UnOp.not) 8] (vT 9 (vV [MV 10 0,MV 4 10,MC 5 (.bool false)]))).seq (vV [MV 11
 0,MV 12 1,O1 13 .slen 12,O2 14 (.sslc true false) 11 13,MV 4 14,MC 5 (.bool true)])))
theorem qrU:qK Tryz.prog 311 15 0 [RV.tmp 4,RV.tmp 5] qs0:=fi Tryz.f311 [] dr []
end
section
open Go Go.Proofs AF HY LN
namespace RC
abbrev Str:=List UInt8
def qP(L:List Int):AV:= .sl L.length λi=> [.int .i64 (L.getD i 0)]
def qix(s:Str):Bool:=decide (1<=s.length)&&decide (s.drop (s.length-1)= [42])
def qAv(s:Str):Bool:=if qix s=true then dA (s.take (s.length-1))&&decide (s.length<=16) else dA s
theorem qdC:((1:Nat):Int)=1:=rfl
theorem qr1(s:Str)(h:we)(hs:s.length<=1000000000):ACalls Tryz.prog 356 [.str s,.str [42]] h (.bool (qix s)) h:=by
 unfold qix
 by_cases g:1<=s.length
 ·have k1:((1:Int)<=s.length)=True:=wh;have k2:((s.length:Int)-1).toNat=s.length-1:=by omega
  have k3:(0<=(s.length:Int)-1)=True:=wh;have k4:((s.length:Int)-1<=s.length)=True:=wh;have k5:List.take (s.length-(s.length-1)) (List.drop (s.length-1) s)=s.drop (s.length-1):=ltl (by simp);rw[dqt g];refine acO qgx ?_;simp (disch:=omega) only[qj9,qdC,k1,k2,k3,k4,k5,go_sem]
  repeat' first|exact v8|with_reducible apply aiA|exact clz|fail
 ·have k1:((1:Int)<=s.length)=False:=wi;rw[dqf g];refine acO qgx ?_;simp (disch:=omega) only[qj9,qdC,k1,go_sem]
  repeat' first|exact v8|fail
theorem qtm(s:Str)(h:we)(hs:s.length<=1000000000):ACalls Tryz.prog 308 [.str s,.str [42]] h (.tup [.str (if qix s=true then s.take (s.length-1) else s),.bool (qix s)]) h:=by
 have c1:=λh=>qr1 s h hs
 cases g:qix s with
 |true=>
  rw[g]at c1;have g1:1<=s.length:=by unfold qix at g;simp at g;omega
  have k2:((s.length:Int)-1).toNat=s.length-1:=by omega
  have k3:(0<=(s.length:Int)-1)=True:=wh;have k4:((s.length:Int)-1<=s.length)=True:=wh;refine acO qgw ?_;simp (disch:=omega) only[qj8,go_sem]
  repeat' first|(refine cA (c1 _) flk ?_;simp (disch:=omega) only[qdC,k2,k3,k4,Nat.sub_zero,go_sem])|exact v8|with_reducible apply aiA|exact clz|fail
 |false=>
  rw[g]at c1;refine acO qgw ?_;simp (disch:=omega) only[qj8,go_sem]
  repeat' first|(refine cA (c1 _) flk ?_;simp (disch:=omega) only[go_sem])|exact v8|fail
theorem qxH(s:Str)(h:we)(hs:s.length<=1000000000):ACalls Tryz.prog 254 [.str s,.str [42]] h (.tup [.str (if qix s=true then s.take (s.length-1) else s),.bool (qix s)]) h:=by
 have c1:=λh=>qtm s h hs
 refine acO qrN ?_;simp (disch:=omega) only[qsU,go_sem]
 repeat' first|(refine cA (c1 _) flk ?_;simp (disch:=omega) only[go_sem])|exact v8|with_reducible apply aiA|exact clz|fail
def qaM(f:Nat->Int):Nat->Nat->Int
 |_,0=>0
 |i,k+1=>if f i≠0 then f i else qaM f (i+1) k
theorem qev{f:Nat->Int}{n i:Nat}(hi:i<=n)(h: ∀j,j<i->f j=0):qaM f 0 n=qaM f i (n-i):=by
 induction i with
 |zero=>rfl
 |succ i ih=>
  rw[ih om (λj hj=>h j om),show n-i=(n-(i+1))+1 by omega];simp only[qaM,h i om,ne_eq,not_true_eq_false,if_false]
theorem qbA{f:Nat->Int}{n i:Nat}(hi:i<n)(h: ∀j,j<i->f j=0)(hp:f i≠0):qaM f 0 n=f i:=by
 rw[qev om h,show n-i=(n-i-1)+1 by omega];simp only[qaM];rw[ipo hp]
theorem kK{f:Nat->Int}{n:Nat}(h: ∀j,j<n->f j=0):qaM f 0 n=0:=by
 rw[qev (nlr n) h,Nat.sub_self];rfl
theorem jR{f:Nat->Int}{n:Nat}:qaM f 0 n=0↔ ∀j,j<n->f j=0:=by
 refine⟨λh=> ?_,kK⟩;intro j
 induction j using Nat.strongRecOn with
 |_ j ih=>
  intro hj
  by_cases e:f j=0
  ·exact e
  ·rw[qbA hj (λk hk=>ih k hk om) e]at h;exact absurd h e
def qvd(b:Int)(l:List Int)(i:Nat):Int:=if l.getD i 0<0∨b<=l.getD i 0 then 2 else if 0<i∧l.getD i 0<=l.getD (i-1) 0 then 10 else 0
def qBw(b:Int)(l:List Int):Int:=qaM (qvd b l) 0 l.length
structure Gr where
 name:Str
 mem:List Int
 deriving Inhabited
def grC(g:Gr):wg:= [.str g.name,qP g.mem]
def qoe(gs:List Gr):AV:= .sl gs.length λi=>grC (gs.getD i default)
def Ux(names:List Str)(i:Nat):Int:=if qAv (names.getD i [])=false then 14 else if jK (λj=>decide (names.getD i []=names.getD j [])) i=true then 7 else 0
def qtY(names:List Str)(gs:List Gr)(i:Nat):Int:=
 if dA (gs.getD i default).name=false then 14 else if jK (λj=>decide ((gs.getD i default).name=names.getD j [])) names.length=true then 7 else
  if jK (λj=>decide ((gs.getD i default).name=(gs.getD j default).name)) i=true then 7 else if (gs.getD i default).mem.length=0 then 5 else qBw names.length (gs.getD i default).mem
def sgE(names:List Str)(gs:List Gr):Int:=
 if 32<names.length then 4 else if qaM (Ux names) 0 names.length≠0 then qaM (Ux names) 0 names.length else if 16<gs.length then 4 else qaM (qtY names gs) 0 gs.length
theorem quc(n:Nat)(g:Nat->Str)(x:Str)(h:we)(hn:n<=1000000000):ACalls Tryz.prog 125 [.sl n (λj=> [.str (g j)]),.str x] h (.int .i64 (qbF (λj=>decide (x=g j)) n 0)) h:=by
 have:=qCC qxZ n (λj=> .s (g j)) (.s x) h (λ_ _=>rfl) om
 simpa only[At.v,At.s.injEq] using this
theorem qB3(n:Nat)(g:Nat->Str)(x:Str)(h:we)(hn:n<=1000000000):ACalls Tryz.prog 128 [.sl n (λj=> [.str (g j)]),.str x] h (.bool (jK (λj=>decide (x=g j)) n)) h:=
 qvY qx0 ⟨rfl,rfl⟩ ⟨rfl,rfl⟩ (quc n g x h hn)
end RC
end
section
namespace AF
open Go
theorem Wk.kill{t:wg}{h:we}{k v:Nat}{ty:TypeId}{cs:wg}(hk:qq k h=some (.mem v ty cs)):Wk t h t (qn k h (.emp (v+1))):=by
 intro N w σ a H;have hkl:k<σ.length:=by rw[H.hr.len];exact zE hk
 have ho:=zH hkl;obtain⟨m1,_⟩:=H.hr.obj k _ _ hk ho;obtain⟨g1,g2⟩:=H.hr.kill ho;rw[m1]at g1 g2;exact⟨_,⟨g1,H.sz,λi c x hc hx=>(H.tm i c x hc hx).ext g2,qae g2 H.df⟩,g2⟩
end AF
end
section
open Go Go.Proofs AF HY LN
namespace RC
theorem qho{p q:Nat->Bool}{n:Nat}(h: ∀i,i<n->p i=q i):jK p n=jK q n:=by
 cases e:jK q n with
 |true=>obtain⟨i,h1,h2⟩:=qZ.1 e;exact qZ.2 ⟨i,h1,by rw[h i h1,h2]⟩
 |false=>exact qu.2 λi hi=>by rw[h i hi];exact qu.1 e i hi
def qCN(l:List Int):Nat:=l.foldl (λa n=>a|||2^n.toNat) 0
def inB(b:Int)(l:List Int):Prop:= ∀i,i<l.length->0<=l.getD i 0∧l.getD i 0<b
theorem qr6(l:List Int): ∀a:Nat,a<2^64->(∀n∈l,0<=n∧n<64)->l.foldl (λa n=>a|||2^n.toNat) a<2^64∧ ∀i,(l.foldl (λa n=>a|||2^n.toNat) a).testBit i=(a.testBit i||decide ((i:Int)∈l)):=by
 induction l with
 |nil=>intro a ha _;exact⟨ha,λi=>by simp⟩
 |cons n l ih=>
  intro a ha hl;have hn:=hl n (by simp);obtain⟨h1,h2⟩:=ih (a|||2^n.toNat) (Nat.or_lt_two_pow ha (Nat.pow_lt_pow_right om om)) (λm hm=>hl m (by simp[hm]));refine⟨h1,λi=> ?_⟩;rw[List.foldl_cons,h2 i,Nat.testBit_or,Nat.testBit_two_pow]
  by_cases e:(i:Int)=n
  ·have e':n.toNat=i:=by omega
   simp[e,e']
  ·have e': ¬n.toNat=i:=by omega
   simp[e,e']
theorem qbK{l:List Int}{b:Int}(h:inB b l): ∀n∈l,0<=n∧n<b:=by
 intro n hn;obtain⟨i,hi,e⟩:=List.getElem_of_mem hn
 have:=h i hi
 rw[gdqA,zH hi]at this;rw[<-e];exact this
theorem qzJ{l:List Int}(h:inB 64 l):qCN l<2^64:=(qr6 l 0 (by decide) (qbK h)).1
theorem qul{l:List Int}(h:inB 64 l)(i:Nat):(qCN l).testBit i=decide ((i:Int)∈l):=by
 have:=(qr6 l 0 (by decide) (qbK h)).2 i
 rw[Nat.zero_testBit,Bool.false_or]at this;exact this
def qlF(p:Nat->Bool)(k:Nat):List Int:=((List.range k).filter p).map Int.ofNat
def qU(L:List Int):wg:=L.map λn=> .int .i64 n
theorem jL(L:List Int):(qU L).length=L.length:=by simp[qU]
theorem qlt(L M:List Int):qU (L++M)=qU L++qU M:=by simp[qU]
theorem qlv{L:List Int}:qU L= []↔L= []:=by simp[qU]
theorem qlw{L:List Int}{n:Nat}(g:AV->AV)(hg: ∀n,g (.int .i64 n)= .int .i64 n)(hn:n=L.length):VLe (.sl n λi=>(((qU L).drop i).take 1).map g) (qP L):=by
 subst hn;refine VLe.sl_eq rfl (λi hi=> ?_);unfold qU;rw[<-List.map_drop,List.drop_eq_getElem_cons hi,List.map_cons,List.take_succ_cons,List.take_zero,List.map_cons,List.map_nil,hg,gdqA,zH hi];rfl
theorem qhN(L:List Int):(qP L).flag=true:=rfl
theorem qfY(L:List Int):(qP L).strip=qP L:=rfl
theorem qld{fz:Nat->Bool}{h:we}{n:Nat}(L:List Int):frz fz h (n+1) (qP L)=qP L:=rfl
theorem qmF{fz:Nat->Bool}{h:we}{n:Nat}(L:List Int):rei fz h (n+1) (qP L)=qP L:=rfl
theorem qk2(L:List Str):(strs L).flag=true:=rfl
theorem qiJ(L:List Str):(strs L).strip=strs L:=rfl
theorem qpC{fz:Nat->Bool}{h:we}{n:Nat}(L:List Str):frz fz h (n+1) (strs L)=strs L:=rfl
theorem qqD{fz:Nat->Bool}{h:we}{n:Nat}(L:List Str):rei fz h (n+1) (strs L)=strs L:=rfl
theorem qkZ(L:List Gr):(qoe L).flag=true:=rfl
theorem qiG(L:List Gr):(qoe L).strip=qoe L:=rfl
theorem qpA{fz:Nat->Bool}{h:we}{n:Nat}(L:List Gr):frz fz h (n+1) (qoe L)=qoe L:=rfl
theorem qqB{fz:Nat->Bool}{h:we}{n:Nat}(L:List Gr):rei fz h (n+1) (qoe L)=qoe L:=rfl
attribute [go_sem] qhN qfY qld qmF qk2 qiJ qpC qqD qkZ qiG qpA qqB
def nIx(names:List Str)(s:Str):Int:=qbF (λj=>decide (s=names.getD j [])) names.length 0
def gIx(gs:List Gr)(s:Str):Int:=qbF (λj=>decide (s=(gs.getD j default).name)) gs.length 0
def qqN(names:List Str)(gs:List Gr)(sg:List Str)(i:Nat):Int:=
 if nIx names (sg.getD i [])<0∧gIx gs (sg.getD i [])<0 then 6 else if jK (λj=>decide (sg.getD i []=sg.getD j [])) i=true then 7 else 0
def els(names:List Str)(gs:List Gr)(s:Str):List Int:=if 0<=nIx names s then [nIx names s] else (gs.getD (gIx gs s).toNat default).mem
def qrw(names:List Str)(gs:List Gr)(sg:List Str):Nat->Nat
 |0=>0
 |i+1=>qrw names gs sg i|||qCN (els names gs (sg.getD i []))
def qhJ(names:List Str)(gs:List Gr)(sg:List Str):Int:=if sgE names gs≠0 then 1 else qaM (qqN names gs sg) 0 sg.length
def qco(names:List Str)(gs:List Gr)(sg:List Str):List Int:=if qhJ names gs sg=0 then qlF (qrw names gs sg sg.length).testBit 64 else []
theorem qve{b:Int}{l:List Int}(h:qBw b l=0):inB b l∧ ∀i,0<i->i<l.length->l.getD (i-1) 0<l.getD i 0:=by
 unfold qBw at h;rw[jR]at h;refine⟨λi hi=> ?_,λi h0 hi=> ?_⟩
 ·have:=h i hi
  unfold qvd at this;split at this
  ·cases this
  ·rename_i hc;omega
 ·have:=h i hi
  unfold qvd at this;split at this
  ·cases this
  ·split at this
   ·cases this
   ·rename_i hc;omega
structure qBq (names:List Str) (gs:List Gr):Prop where
 n32:names.length<=32
 g16:gs.length<=16
 na: ∀i,i<names.length->Ux names i=0
 gr: ∀i,i<gs.length->qtY names gs i=0
theorem qsh{names:List Str}{gs:List Gr}(h:sgE names gs=0):qBq names gs:=by
 unfold sgE at h;split at h
 ·cases h
 split at h
 ·rename_i h1;exact absurd h h1
 split at h
 ·cases h
 rename_i h1 h2 h3;exact⟨om,om,jR.1 (by simpa using h2),jR.1 h⟩
theorem qtZ{names:List Str}{gs:List Gr}(h:qBq names gs){i:Nat}(hi:i<gs.length):qBw names.length (gs.getD i default).mem=0:=by
 have:=h.gr i hi
 unfold qtY at this
 repeat' split at this
 all_goals first|(cases this;done)|exact this
theorem qlL(names:List Str)(s:Str):(∃k:Nat,k<names.length∧names.getD k []=s∧nIx names s=k)∨((∀j,j<names.length->s≠names.getD j [])∧nIx names s= -1):=by
 rcases zT (λj=>decide (s=names.getD j [])) names.length with⟨i,h1,h2,_,h4⟩|⟨h1,h2⟩
 ·exact .inl ⟨i,h1,(of_decide_eq_true h2).symm,h4⟩
 ·exact .inr ⟨λj hj=>of_decide_eq_false (h1 j hj),h2⟩
theorem qlf(gs:List Gr)(s:Str):(∃k:Nat,k<gs.length∧(gs.getD k default).name=s∧gIx gs s=k)∨((∀j,j<gs.length->s≠(gs.getD j default).name)∧gIx gs s= -1):=by
 rcases zT (λj=>decide (s=(gs.getD j default).name)) gs.length with⟨i,h1,h2,_,h4⟩|⟨h1,h2⟩
 ·exact .inl ⟨i,h1,(of_decide_eq_true h2).symm,h4⟩
 ·exact .inr ⟨λj hj=>of_decide_eq_false (h1 j hj),h2⟩
theorem qkO{names:List Str}{gs:List Gr}{s:Str}(h:qBq names gs)(hf: ¬(nIx names s<0∧gIx gs s<0)):inB names.length (els names gs s):=by
 unfold els;rcases qlL names s with⟨k,h1,_,h3⟩|⟨_,h3⟩
 ·rw[h3,ipo om];intro i hi
  have:i=0:=by simpa using hi
  subst this;simp only[List.getD_cons_zero];omega
 ·rw[h3,ine om];rcases qlf gs s with⟨k,g1,_,g3⟩|⟨_,g3⟩
  ·rw[g3,itn];exact (qve (qtZ h g1)).1
  ·exact absurd ⟨om,om⟩ hf
theorem qgB{b c:Int}{l:List Int}(h:inB b l)(hbc:b<=c):inB c l:=λi hi=>⟨(h i hi).1,by have:=(h i hi).2;omega⟩
theorem qsy{names:List Str}{gs:List Gr}{sg:List Str}(h:qBq names gs): ∀ {i:Nat},(∀j,j<i->qqN names gs sg j=0)->qrw names gs sg i<2^64∧ ∀k,(qrw names gs sg i).testBit k=decide (∃j,j<i∧(k:Int)∈els names gs (sg.getD j [])):=by
 intro i
 induction i with
 |zero=>intro _;exact⟨Nat.two_pow_pos 64,λk=>by simp[qrw]⟩
 |succ i ih=>
  intro hz;obtain⟨h1,h2⟩:=ih (λj hj=>hz j om);have h3: ¬(nIx names (sg.getD i [])<0∧gIx gs (sg.getD i [])<0):=by
   intro hc
   have:=hz i om
   unfold qqN at this;rw[ipo hc]at this;cases this
  have h4:inB 64 (els names gs (sg.getD i [])):=qgB (qkO h h3) (by have:=h.n32;omega);refine⟨Nat.or_lt_two_pow h1 (qzJ h4),λk=> ?_⟩;unfold qrw;rw[Nat.testBit_or,h2 k,qul h4 k,<-Bool.decide_or];refine decide_eq_decide.2 ⟨?_,?_⟩
  ·rintro (⟨j,hj,hm⟩|hm)
   ·exact⟨j,om,hm⟩
   ·exact⟨i,om,hm⟩
  ·rintro⟨j,hj,hm⟩
   by_cases e:j=i
   ·subst e;exact .inr hm
   ·exact .inl ⟨j,om,hm⟩
end RC
end
section
namespace AF
open Go Go.RowKit
theorem Ext.ofBelow{w w':World}{σ:List OB}{h:we}(H:HR w σ h)(hb:Below w.heap.size w w'):HR w' σ h∧Ext w σ w' σ:=by
 have e:Ext w σ w' σ:=⟨hb.os,hb.tape,hb.output,hb.size,λb hl _=>hb.block b hl,λ_ h=> .inl h,λ_ o h=>⟨o,h,nlr _,λ_=>rfl⟩,
  λb r h=>⟨r,(hb.block b (Array.getElem?_eq_some_iff.1 h).1).trans h⟩⟩
 exact⟨⟨H.len,H.inj,λk o b h1 h2=>Nat.lt_of_lt_of_le (H.lt k o b h1 h2) hb.size,λk a o h1 h2=>(H.obj k a o h1 h2).ext e (λb h3=>hb.block b (H.lt k o b h2 h3))⟩,e⟩
end AF
end
section
namespace AF
open Go Go.ChangeShapes Go.WideShapes Go.ChangeAt Go.RowKit
def qdE:OB:=⟨none,0,0,0⟩
theorem qfF(b:Nat): ¬own [qdE] b:=by
 rintro⟨k,o,h,h2⟩;cases k with
 |zero=>simp at h;subst h;cases h2
 |succ k=>simp at h
theorem qr2{w:World}{bs:List Nat}{G:World->Prop}(hb: ∀b,b∈bs-> ∃arr T fz,w.heap[b]? =some (.cells arr T fz))(hG: ∀w':World,(∀b,b∈bs->w'.heap[b]? =w.heap[b]?)->G w'):
  HR w [qdE] [.pin bs G]:=by
 refine⟨rfl,?_,?_,?_⟩
 ·intro i j oi oj b hi hj bi;cases i with
  |zero=>simp at hi;subst hi;cases bi
  |succ i=>simp at hi
 ·intro k o b hk hb';cases k with
  |zero=>simp at hk;subst hk;cases hb'
  |succ k=>simp at hk
 ·intro k a o ha ho;cases k with
  |zero=>
   simp at ha ho;subst ha;subst ho;exact⟨rfl,rfl,λb h=>⟨qfF b,hb b h⟩,hG⟩
  |succ k=>simp at ha
theorem qtF(w:World):Ext w [] w [qdE]:=
 ⟨rfl,rfl,rfl,nlr _,λ_ _ _=>rfl,λb h=>absurd h (qfF b),λk o h=>by simp at h,λ_ r h=>⟨r,h⟩⟩
theorem qjh{w w':World}{σ':List OB}(h:Ext w [qdE] w' σ'):Below w.heap.size w w':=⟨h.os,h.tape,h.output,h.size,λk hk=>h.keep k hk (qfF k)⟩
theorem VRs.ext{w w':World}{σ σ':List OB}(h:Ext w σ w' σ'){avs:wg}{xs:List Value}(hv:VRs w σ avs xs):VRs w' σ' avs xs:=⟨hv.1,λi c x hc hx=>(hv.2 i c x hc hx).ext h⟩
theorem qzW{w:World}{σ:List OB}{h:we}{k:Nat}{bs:List Nat}{G:World->Prop}(H:HR w σ h)(hk:h[k]? =some (.pin bs G)):G w:=by
 have hl:k<σ.length:=by rw[H.len];exact (lgs.1 hk).1
 obtain⟨_,_,_,h4⟩:=H.obj k _ σ[k] hk (zH hl);exact h4 w (λ_ _=>rfl)
theorem qeH{H:Type}{enc:TypeId×Value->H}{P:Program}{W:World}{f:Func}{fid:FuncId}{s:ChangeSpec}{args:Array Value}{ds gs:List (DataW H)}{before:List MemPlace}{tb:TypeId}{bs:List Nat}{G:World->Prop}
  (hl:laidOutB P=true) (hv:s.vars= []) (hfn: ∀ds',ds'.length=f.params.size->s.fn H ds'= { results:= [.lit (.bool true)],args:=ds' })
  (hrt:f.resultTypes= #[tb]) (htb:P.underlying tb=some .bool) (hro: ∀t∈f.params.toList,P.readableRec t=true∧t<P.types.size)
  (hW:DataW.Whole enc P f.params.toList s.vars false W args.toList ds gs before)
  (hb: ∀b,b∈bs-> ∃arr T fz,W.heap[b]? =some (.cells arr T fz)) (hG: ∀w':World,(∀b,b∈bs->w'.heap[b]? =W.heap[b]?)->G w')
  (hc: ∀p,DataW.TrodAll enc P W 0 (λ_=>true) true f.params.toList args.toList ds p->ds.length=f.params.size∧ ∃avs:wg,VRs W [] avs args.toList∧ACalls P fid avs [.pin bs G] (.bool true) [.pin bs G]):
  Calls P fid args W λe W'=> ∃v,e= .returned v∧s.post enc P f false true false false W args v W':=by
 have hW':=hW;obtain⟨p,q,hA,hV,rfl,hz,_⟩:=hW;rw[hv]at hV;obtain⟨rfl,rfl⟩:=trodVars_none hV;obtain⟨hlen,avs,h1,h2⟩:=hc p hA;rw[lan]at hW';have h3:=h2.2 W [qdE] args.toList (qr2 hb hG) (h1.ext (qtF W));rw[Array.toArray_toList]at h3;refine (callsIn_wide.1 h3).mono ?_;rintro e W' ⟨v,σ',rfl,g1,g2,g3⟩;obtain rfl:=jm g2;exact⟨_,rfl,qpP hl hv (hfn ds hlen) hrt htb hro hW' hA (qjh g3)⟩
theorem qd3{P:Program}{w w':World}{name:String}{g:Nat}(hg:P.globalNamed name=some g)(h:w'.heap[g]? =w.heap[g]?):w'.var? P name=w.var? P name:=by
 unfold World.var?;rw[hg];simp only[Option.bind_some];rw[h]
theorem qcm{P:Program}{w:World}{name:String}{g:Nat}{cs:Array Value}(hg:P.globalNamed name=some g)(h:w.var? P name=some cs): ∃arr T fz,w.heap[g]? =some (.cells arr T fz):=by
 unfold World.var? at h;rw[hg]at h;simp only[Option.bind_some]at h;split at h
 ·rename_i cs T fz hc;exact⟨_,_,_,hc⟩
 ·cases h
end AF
end
section
open Go Go.Proofs AF HY
namespace LN
def qsq (w : World) : Prop := Lib.TabIs Tryz.prog w "internal/strconv.uint64pow10" .u64 Lib.pow10Tab
def qBo (w : World) : Prop := (∃ tp p, w.var? Tryz.prog "strconv.ErrSyntax" = some #[.iface tp p]) ∧ ∃ tp p, w.var? Tryz.prog "strconv.ErrRange" = some #[.iface tp p]
def ku(Q:World->Prop)(h:we):Prop:= ∃(k:Nat) (bs:List Nat) (G:World->Prop),h[k]? =some (.pin bs G)∧ ∀w,G w->Q w
theorem ku.app{Q:World->Prop}{h:we}(hp:ku Q h)(l:we):ku Q (h++l):=by
 obtain⟨k,bs,G,h1,h2⟩:=hp;exact⟨k,bs,G,by rw[List.getElem?_append_left (lgs.1 h1).1];exact h1,h2⟩
theorem ku.mono{Q Q':World->Prop}{h:we}(hp:ku Q h)(hq: ∀w,Q w->Q' w):ku Q' h:=by
 obtain⟨k,bs,G,h1,h2⟩:=hp;exact⟨k,bs,G,h1,λw hw=>hq w (h2 w hw)⟩
theorem ku.of{Q:World->Prop}{h:we}{w:World}{σ:List OB}(hp:ku Q h)(H:HR w σ h):Q w:=by
 obtain⟨k,bs,G,h1,h2⟩:=hp;exact h2 w (qzW H h1)
theorem t48(n:Int)(h:we)(hp:ku qsq h)(h0: -9223372036854775808<=n)(h1:n<=9223372036854775807):ACalls Tryz.prog 116 [.int .i64 n] h (.str (Lib.itoa n)) h:=by
 refine⟨qoh Tryz.func116 (by kernel_rfl) (by kernel_rfl),λw σ xs H hv=> ?_⟩;obtain⟨x,rfl,hx⟩:=hv.one;rw[zz hx];refine (callsIn_wide.2 (Any.strconv_Itoa Tryz.laysM171 n h0 h1 w (hp.of H))).mono ?_;rintro e w' ⟨rfl,k,os,rfl⟩;obtain⟨g1,g2⟩:=Ext.ofBelow H (Lib.below_grow w.heap.size w (nlr _) k os);exact⟨_,σ,rfl,g1,.imm .str,g2⟩
def qsC(s:List UInt8):Int:=
 match Lib.atoiAll s with
 | .ok _=>0
 | .range=>Lib.atoiSat s
 |_=>0
def qot(s:List UInt8):AV:=
 match Lib.atoiAll s with
 | .ok v=> .tup [.int .i64 v,.nilif]
 |_=> .tup [.int .i64 (qsC s),.ifc]
theorem t50(s:List UInt8)(h:we)(hp:ku qBo h)(hl:s.length<=281474976710656):ACalls Tryz.prog 195 [.str s] h (qot s) h:=by
 refine⟨qoh Tryz.func195 (by kernel_rfl) (by kernel_rfl),λw σ xs H hv=> ?_⟩;obtain⟨x,rfl,hx⟩:=hv.one;rw[zZ hx];have hsz:(⟨s.toArray⟩:ByteArray).size<=281474976710656:=by simpa[ByteArray.size] using hl
 obtain⟨⟨t1,p1,e1⟩,t2,p2,e2⟩:=hp.of H;unfold qot qsC;have hd:(⟨s.toArray⟩:ByteArray).data.toList=s:=rfl;cases hs:Lib.atoiAll s
 ·rename_i v;refine (callsIn_wide.2 (Any.strconv_Atoi_ok Tryz.laysC172 ⟨s.toArray⟩ om v (by rw[hd];exact hs) w)).mono ?_;rintro e w' ⟨rfl,hw⟩;have hb:Go.RowKit.Below w.heap.size w w':=by
   rcases hw with rfl|⟨t,rfl⟩
   ·exact Go.RowKit.Below.refl _ _
   ·exact Lib.bytesWorld_below _ _ _
  obtain⟨g1,g2⟩:=Ext.ofBelow H hb;refine⟨_,σ,rfl,g1,.imm (.tup rfl (λi c y hc hy=> ?_)),g2⟩
  match i with
  |0=>simp at hc hy;subst hc hy;exact .int
  |1=>simp at hc hy;subst hc hy;exact .nilif
  |i+2=>simp at hc
 ·refine (callsIn_wide.2 (Any.strconv_Atoi_syntax_var Tryz.laysC172 ⟨s.toArray⟩ hsz (by rw[hd];exact hs) t1 p1 w e1)).mono ?_;rintro e w' ⟨N,rfl,_,_,hb⟩;obtain⟨g1,g2⟩:=Ext.ofBelow H hb;refine⟨_,σ,rfl,g1,.imm (.tup rfl (λi c y hc hy=> ?_)),g2⟩
  match i with
  |0=>simp at hc hy;subst hc hy;exact .int
  |1=>simp at hc hy;subst hc hy;exact .ifc
  |i+2=>simp at hc
 ·refine (callsIn_wide.2 (Any.strconv_Atoi_range_var Tryz.laysC172 ⟨s.toArray⟩ hsz (by rw[hd];exact hs) t2 p2 w e2)).mono ?_;rintro e w' ⟨N,rfl,_,_,hb⟩;obtain⟨g1,g2⟩:=Ext.ofBelow H hb;refine⟨_,σ,rfl,g1,.imm (.tup rfl (λi c y hc hy=> ?_)),g2⟩
  match i with
  |0=>simp at hc hy;subst hc hy;exact .int
  |1=>simp at hc hy;subst hc hy;exact .ifc
  |i+2=>simp at hc
theorem qmc: ∀(l r:List UInt8) (acc:Nat),Lib.parseUint10 acc (l++r)=match Lib.parseUint10 acc l with
  | .ok v=>Lib.parseUint10 v r
  |e=>e:=by
 intro l
 induction l with
 |nil=>intro r acc;rfl
 |cons c l ih=>
  intro r acc;rw[lca,Lib.parseUint10,Lib.parseUint10]
  by_cases h1:48<=c.toNat∧c.toNat<=57
  ·rw[ipo h1,ipo h1]
   by_cases h2:1844674407370955162<=acc
   ·rw[ipo h2,ipo h2]
   ·rw[ine h2,ine h2]
    by_cases h3:18446744073709551616<=acc*10+(c.toNat-48)
    ·rw[ipo h3,ipo h3]
    ·rw[ine h3,ine h3];exact ih r _
  ·rw[ine h1,ine h1]
theorem qdk{d:Nat}(h:d<10):(UInt8.ofNat (48+d)).toNat=48+d:=by
 rw[UInt8.toNat_ofNat'];omega
theorem qmd: ∀u,u<1000000000->Lib.parseUint10 0 (Lib.decDigits u)= .ok u:=by
 intro u
 induction u using Nat.strongRecOn with
 |_ u ih=>
  intro hu
  by_cases h:u<10
  ·rw[Lib.decDigits,dif_pos h,Lib.parseUint10,qdk h,ipo om,ine om,ine om,Lib.parseUint10];congr 1;omega
  ·rw[Lib.decDigits,dif_neg h,qmc,ih (u/10) om om];simp only;rw[Lib.parseUint10,qdk om,ipo om,ine om,ine om,Lib.parseUint10];congr 1;omega
theorem qcL: ∀u,∀c∈Lib.decDigits u,48<=c.toNat∧c.toNat<=57:=by
 intro u
 induction u using Nat.strongRecOn with
 |_ u ih=>
  intro c hc
  by_cases h:u<10
  ·rw[Lib.decDigits,dif_pos h,List.mem_singleton]at hc;subst hc;rw[qdk h];omega
  ·rw[Lib.decDigits,dif_neg h]at hc;rcases List.mem_append.1 hc with hc|hc
   ·exact ih (u/10) om c hc
   ·rw[List.mem_singleton]at hc;subst hc;rw[qdk om];omega
theorem qxJ(u:Nat):Lib.decDigits u≠ []:=by
 intro h
 have:=Lib.decDigits_length u
 have:=Lib.nDigits_pos u
 rw[h]at*;simp at*;omega
theorem gz{n:Int}(h0:0<=n)(h1:n<1000000000):Lib.atoiAll (Lib.itoa n)= .ok n:=by
 obtain⟨u,rfl⟩: ∃u:Nat,n=u:=⟨n.toNat,om⟩
 rw[Lib.itoa_nonneg];have hd:=qcL u;have hp:=qmd u om;have hne:=qxJ u;cases hl:Lib.decDigits u with
 |nil=>exact absurd hl hne
 |cons c r=>
  rw[hl]at hd hp;have hc:=hd c (List.mem_cons_self ..);unfold Lib.atoiAll;simp only;rw[ine (show¬(c.toNat=43∨c.toNat=45) by omega)];unfold Lib.parseMag;rw[ine (by simp),hp];simp only;rw[ine om,ine om,ine om]
end LN
end
section
open Go Go.Proofs AF HY LN
namespace RC
theorem qgi{s:Str}{v:Int}(h:Lib.atoiAll s= .ok v): -9223372036854775808<=v∧v<=9223372036854775807:=by
 unfold Lib.atoiAll at h;split at h
 ·cases h
 ·simp only at h;split at h
  ·cases h
  ·cases h
  ·split at h
   ·cases h
   ·split at h
    ·cases h
    ·rename_i h1 h2;cases h;split
     ·rename_i h3;have:=mt (And.intro h3) h2;omega
     ·rename_i h3;have:=mt (And.intro h3) h1;omega
theorem qdv{k:Nat}(h:k<=64):(Lib.itoa (k:Int)).length<=9:=by
 rw[Lib.itoa_nonneg]
 by_cases g:k<10
 ·rw[Lib.decDigits,dif_pos g];simp
 ·rw[Lib.decDigits,dif_neg g,Lib.decDigits,dif_pos (show k/10<10 by omega)];simp
def qo7(s:Str):Bool:=match Lib.atoiAll s with
 | .ok v=>decide (1<=v)&&(decide (s.length<=9)&&decide (Lib.itoa v=s))
 |_=>false
def qrC(s:Str):Int:=match Lib.atoiAll s with
 | .ok v=>v
 |_=>qsC s
def SG(w:World):Prop:=qsq w∧qBo w
theorem SG.pow{h:we}(hp:ku SG h):ku qsq h:=hp.mono λ_ h=>h.1
theorem SG.err{h:we}(hp:ku SG h):ku qBo h:=hp.mono λ_ h=>h.2
theorem qB6(s:Str)(h:we)(hs:s.length<=1000000000)(hp:ku SG h):ACalls Tryz.prog 119 [.str s] h (.tup [.int .i64 (qrC s),.bool (qo7 s)]) h:=by
 have c180:=t50 s h (SG.err hp) om;unfold qrC qo7;unfold qot at c180;cases ha:Lib.atoiAll s
 ·rename_i v;rw[ha]at c180;simp only at c180;obtain⟨r1,r2⟩:=qgi ha;have c181:=t48 v h (SG.pow hp) r1 r2;obtain⟨t,ht⟩:=wc (Lib.itoa v)
  rw[<-ht]at c181;simp only[<-ht]
  by_cases g1:1<=v
  ·have k1:(1<=v)=True:=eqt g1;rw[dqt g1]
   by_cases g2:s.length<=9
   ·have k2:((s.length:Int)<=9)=True:=wh;rw[dqt g2];refine acO qet ?_;simp (disch:=omega) only[qht,go_sem]
    repeat' first|((first|refine cA (c180) ?_ ?_|refine cG (λe=>c181) ?_ ?_);exact flk;simp (disch:=omega) only[k1,k2,go_sem])|exact v8|with_reducible apply aiA|exact clz|fail
   ·have k2:((s.length:Int)<=9)=False:=wi;rw[dqf g2];refine acO qet ?_;simp (disch:=omega) only[qht,go_sem]
    repeat' first|(refine ql ( .str []) ?_;simp (disch:=omega) only[go_sem])|(refine cA (c180) flk ?_;simp (disch:=omega) only[k1,k2,go_sem])|exact v8|with_reducible apply aiA|exact clz|fail
  ·have k1:(1<=v)=False:=eqf g1;rw[dqf g1];refine acO qet ?_;simp (disch:=omega) only[qht,go_sem]
   repeat' first|(refine ql ( .str []) ?_;simp (disch:=omega) only[go_sem])|(refine cA (c180) flk ?_;simp (disch:=omega) only[k1,go_sem])|exact v8|(with_reducible first|intro _|apply aiA)|exact clz|fail
 ·rw[ha]at c180;simp only at c180;refine acO qet ?_;simp (disch:=omega) only[qht,go_sem]
  repeat' first|(refine ql ( .str []) ?_;simp (disch:=omega) only[go_sem])|(refine cA (c180) flk ?_;simp (disch:=omega) only[go_sem])|exact v8|(with_reducible first|intro _|apply aiA)|exact clz|fail
 ·rw[ha]at c180;simp only at c180;refine acO qet ?_;simp (disch:=omega) only[qht,go_sem]
  repeat' first|(refine ql ( .str []) ?_;simp (disch:=omega) only[go_sem])|(refine cA (c180) flk ?_;simp (disch:=omega) only[go_sem])|exact v8|(with_reducible first|intro _|apply aiA)|exact clz|fail
def pre(s:Str):Bool:=decide (1<=s.length)&&decide (s.take 1= [91])
theorem qr0(s:Str)(h:we)(hs:s.length<=1000000000):ACalls Tryz.prog 358 [.str s,.str [91]] h (.bool (pre s)) h:=by
 unfold pre
 by_cases g:1<=s.length
 ·have k1:((1:Int)<=s.length)=True:=wh;rw[dqt g];refine acO qrW ?_;simp (disch:=omega) only[qs2,qdC,k1,go_sem]
  repeat' first|exact v8|with_reducible apply aiA|exact clz|fail
 ·have k1:((1:Int)<=s.length)=False:=wi;rw[dqf g];refine acO qrW ?_;simp (disch:=omega) only[qs2,qdC,k1,go_sem]
  repeat' first|exact v8|fail
theorem qtl(s:Str)(h:we)(hs:s.length<=1000000000):ACalls Tryz.prog 311 [.str s,.str [91]] h (.tup [.str (if pre s=true then s.drop 1 else s),.bool (pre s)]) h:=by
 have c1:=λh=>qr0 s h hs
 cases g:pre s with
 |true=>
  rw[g]at c1;have g1:1<=s.length:=by unfold pre at g;simp at g;omega
  have k4:((1:Int)<=s.length)=True:=wh;have k5:List.take (s.length-1) (List.drop 1 s)=s.drop 1:=ltl (by simp);refine acO qrU ?_;simp (disch:=omega) only[qs0,go_sem]
  repeat' first|(refine cA (c1 _) flk ?_;simp (disch:=omega) only[qdC,k4,go_sem])|(apply qc;exact rvk;simp only[go_sem])|with_reducible apply aiA|exact clz|fail
  simp only[Int.toNat_one,k5];exact qi
 |false=>
  rw[g]at c1;refine acO qrU ?_;simp (disch:=omega) only[qs0,go_sem]
  repeat' first|(refine cA (c1 _) flk ?_;simp (disch:=omega) only[go_sem])|exact v8|fail
theorem qxG(s:Str)(h:we)(hs:s.length<=1000000000):ACalls Tryz.prog 264 [.str s,.str [91]] h (.tup [.str (if pre s=true then s.drop 1 else s),.bool (pre s)]) h:=by
 have c1:=λh=>qtl s h hs
 refine acO qyE ?_;simp (disch:=omega) only[qw1,go_sem]
 repeat' first|(refine cA (c1 _) flk ?_;simp (disch:=omega) only[go_sem])|exact v8|with_reducible apply aiA|exact clz|fail
def U4(s:Str):Bool:=decide (1<=s.length)&&decide (s.drop (s.length-1)= [93])
theorem qt0(s:Str)(h:we)(hs:s.length<=1000000000):ACalls Tryz.prog 356 [.str s,.str [93]] h (.bool (U4 s)) h:=by
 unfold U4
 by_cases g:1<=s.length
 ·have k1:((1:Int)<=s.length)=True:=wh;have k2:((s.length:Int)-1).toNat=s.length-1:=by omega
  have k3:(0<=(s.length:Int)-1)=True:=wh;have k4:((s.length:Int)-1<=s.length)=True:=wh;have k5:List.take (s.length-(s.length-1)) (List.drop (s.length-1) s)=s.drop (s.length-1):=ltl (by simp);rw[dqt g];refine acO qgx ?_;simp (disch:=omega) only[qj9,qdC,k1,k2,k3,k4,k5,go_sem]
  repeat' first|exact v8|with_reducible apply aiA|exact clz|fail
 ·have k1:((1:Int)<=s.length)=False:=wi;rw[dqf g];refine acO qgx ?_;simp (disch:=omega) only[qj9,qdC,k1,go_sem]
  repeat' first|exact v8|fail
theorem qo4(s:Str)(h:we)(hs:s.length<=1000000000):ACalls Tryz.prog 308 [.str s,.str [93]] h (.tup [.str (if U4 s=true then s.take (s.length-1) else s),.bool (U4 s)]) h:=by
 have c1:=λh=>qt0 s h hs
 cases g:U4 s with
 |true=>
  rw[g]at c1;have g1:1<=s.length:=by unfold U4 at g;simp at g;omega
  have k2:((s.length:Int)-1).toNat=s.length-1:=by omega
  have k3:(0<=(s.length:Int)-1)=True:=wh;have k4:((s.length:Int)-1<=s.length)=True:=wh;refine acO qgw ?_;simp (disch:=omega) only[qj8,go_sem]
  repeat' first|(refine cA (c1 _) flk ?_;simp (disch:=omega) only[qdC,k2,k3,k4,Nat.sub_zero,go_sem])|exact v8|with_reducible apply aiA|exact clz|fail
 |false=>
  rw[g]at c1;refine acO qgw ?_;simp (disch:=omega) only[qj8,go_sem]
  repeat' first|(refine cA (c1 _) flk ?_;simp (disch:=omega) only[go_sem])|exact v8|fail
theorem qtn(s:Str)(h:we)(hs:s.length<=1000000000):ACalls Tryz.prog 254 [.str s,.str [93]] h (.tup [.str (if U4 s=true then s.take (s.length-1) else s),.bool (U4 s)]) h:=by
 have c1:=λh=>qo4 s h hs
 refine acO qrN ?_;simp (disch:=omega) only[qsU,go_sem]
 repeat' first|(refine cA (c1 _) flk ?_;simp (disch:=omega) only[go_sem])|exact v8|with_reducible apply aiA|exact clz|fail
def qdo(s:Str):Bool:=(List.range 64).any λk=>decide (s=91::(Lib.itoa ((k+1:Nat):Int)++ [93]))
def zW(s:Str):Bool:=jr s||(if s.length=1 then decide (kind (ch s 0)=5)||decide (kind (ch s 0)=4) else qdo s)
def qog(s:Str):Str:=if U4 (if pre s=true then s.drop 1 else s)=true then (if pre s=true then s.drop 1 else s).take ((if pre s=true then s.drop 1 else s).length-1) else if pre s=true then s.drop 1 else s
def qzo(s:Str):Bool:=pre s&&U4 (if pre s=true then s.drop 1 else s)&&qo7 (qog s)&&decide (qrC (qog s)<=64)
theorem qzq(s:Str):qzo s=qdo s:=by
 cases g:qdo s with
 |true=>
  unfold qdo at g;rw[List.any_eq_true]at g;obtain⟨k,hk,e⟩:=g;have hk':k<64:=by simpa using hk
  have e:=of_decide_eq_true e;obtain⟨t,ht⟩:=wc (Lib.itoa ((k+1:Nat):Int))
  rw[<-ht]at e;have ha:Lib.atoiAll t= .ok ((k+1:Nat):Int):=by rw[ht];exact gz om om
  have hl:t.length<=9:=by
   rw[ht];exact qdv om
  have p1:pre s=true:=by rw[e];simp[pre]
  have p2:s.drop 1=t++ [93]:=by rw[e];rfl
  have p3:U4 (t++ [93])=true:=by unfold U4;simp
  have p4:qog s=t:=by unfold qog;rw[ipo p1,p2,ipo p3];simp
  have p5:qo7 t=true:=by unfold qo7;rw[ha];simp only;rw[<-ht];simp;omega
  have p6:qrC t=((k+1:Nat):Int):=by unfold qrC;rw[ha]
  unfold qzo;rw[p4,p1,ipo rfl,p2,p3,p5,p6];simp;omega
 |false=>
  cases q:qzo s with
  |false=>rfl
  |true=>
   exfalso;unfold qzo at q;simp only[Bool.and_eq_true,decide_eq_true_eq]at q;obtain⟨⟨⟨q1,q2⟩,q3⟩,q4⟩:=q;rw[ipo q1]at q2;obtain⟨m,hm⟩:=wc (qog s)
   have hm':=hm;unfold qog at hm';rw[ipo q1,ipo q2]at hm';rw[<-hm]at q3 q4;unfold qo7 at q3;unfold qrC at q4;cases ha:Lib.atoiAll m
   ·rename_i v;rw[ha]at q3 q4;simp only[Bool.and_eq_true,decide_eq_true_eq]at q3 q4;obtain⟨r1,r2,r3⟩:=q3;unfold pre at q1;unfold U4 at q2;simp only[Bool.and_eq_true,decide_eq_true_eq]at q1 q2;have e1:s=91::s.drop 1:=by
     have:=List.take_append_drop 1 s
     rw[q1.2]at this;exact this.symm
    have e2:s.drop 1=m++ [93]:=by
     have:=List.take_append_drop ((s.drop 1).length-1) (s.drop 1)
     rw[q2.2,<-hm']at this;exact this.symm
    have:qdo s=true:=by
     unfold qdo;rw[List.any_eq_true];refine⟨v.toNat-1,by simp;omega,dqt ?_⟩;rw[show ((v.toNat-1+1:Nat):Int)=v by omega,r3,<-e2,<-e1]
    rw[g]at this;cases this
   ·rw[ha]at q3;cases q3
   ·rw[ha]at q3;cases q3
theorem qvQ(s:Str)(h:we)(hs:s.length<=1000000000)(hp:ku SG h):ACalls Tryz.prog 190 [.str s] h (.bool (zW s)) h:=by
 have c167:=λh=>t88 s h hs
 unfold zW;cases g:jr s with
 |true=>
  rw[g]at c167;refine acO qk7 ?_;simp (disch:=omega) only[qoH,go_sem]
  repeat' first|(refine cA (c167 _) flk ?_;simp (disch:=omega) only[go_sem])|exact v8|fail
 |false=>
 rw[g]at c167;rw[Bool.false_or]
 by_cases g1:s.length=1
 ·have k1:((s.length:Int)=1)=True:=wh;have k2:((0:Int)<s.length)=True:=wh;rw[ipo g1];have e:(s[0]?).getD 0=ch s 0:=by simp[ch,gdqA]
  have c153:=λh=>qa7 (ch s 0) h
  obtain⟨k,hk⟩:=wc (kind (ch s 0))
  rw[<-hk]at c153 ⊢;refine acO qk7 ?_;simp (disch:=omega) only[qoH,go_sem]
  repeat' first|((first|refine cA (c167 _) ?_ ?_|refine cA (c153 _) ?_ ?_);exact flk;simp (disch:=omega) only[k1,k2,e,Int.toNat_zero,go_sem])|exact v8|with_reducible apply aiA|exact clz|fail
 ·have k1:((s.length:Int)=1)=False:=wi;rw[ine g1,<-qzq];have c168:=λh=>qxG s h hs
  unfold qzo;have hm:qog s=if U4 (if pre s=true then s.drop 1 else s)=true then (if pre s=true then s.drop 1 else s).take ((if pre s=true then s.drop 1 else s).length-1) else if pre s=true then s.drop 1 else s:=rfl
  obtain⟨u,hu⟩:=wc (if pre s=true then s.drop 1 else s)
  rw[<-hu]at c168 hm ⊢;have hul:u.length<=s.length:=by rw[hu];split<;>simp
  have c126:=λh=>qtn u h om
  rw[<-hm]at c126;have hml:(qog s).length<=u.length:=by rw[hm];split<;>simp
  have c169:=qB6 (qog s) h om hp;obtain⟨m,hmm⟩:=wc (qog s)
  rw[<-hmm]at c126 c169 ⊢;obtain⟨a,ha⟩:=wc (pre s)
  obtain⟨b,hb⟩:=wc (U4 u)
  obtain⟨c,hc⟩:=wc (qo7 m)
  rw[<-ha]at c168 ⊢;rw[<-hb]at c126 ⊢;rw[<-hc]at c169 ⊢;cases a<;>cases b<;>cases c
  all_goals
   refine acO qk7 ?_;simp (disch:=omega) only[qoH,go_sem]
   repeat' first|((first|refine cA (c167 _) ?_ ?_|refine cA (c168 _) ?_ ?_|refine cA (c126 _) ?_ ?_|refine cA (c169) ?_ ?_);exact flk;simp (disch:=omega) only[k1,go_sem])|exact v8|with_reducible apply aiA|exact clz|fail
def wE(s:Str):Int:=if zW s=true then 0 else 11
def qn9(L:List Str):Int:=qaM (λi=>wE (L.getD i [])) 0 L.length
def qrz(C L:List Int):List Int:=L.foldl (λC n=>C.set n.toNat (C.getD n.toNat 0+1)) C
theorem qoE(L:List Int): ∀C:List Int,(qrz C L).length=C.length:=by
 induction L with
 |nil=>intro C;rfl
 |cons n L ih=>intro C;show (qrz (C.set _ _) L).length=_;rw[ih];simp
theorem qlu{C:List Int}{n:Nat}(h:n<C.length):(qU C)[n]? =some (.int .i64 (C.getD n 0)):=by
 unfold qU;rw[List.getElem?_map,zH h,gdqA,zH h];rfl
theorem qpi{names:List Str}{gs:List Gr}{sg:List Str}:inB names.length (qco names gs sg)∧ ∀i,0<i->i<(qco names gs sg).length->(qco names gs sg).getD (i-1) 0<(qco names gs sg).getD i 0:=by
 unfold qco;split
 ·rename_i h;have h':=h;unfold qhJ at h';split at h'
  ·cases h'
  rename_i h1;have hok:=qsh (by simpa using h1);have hz:=jR.1 h';obtain⟨m1,m2⟩:=qsy hok hz;have hsort:(qlF (qrw names gs sg sg.length).testBit 64).Pairwise (· < ·):=by
   unfold qlF;rw[List.pairwise_map];exact (List.pairwise_lt_range.filter _).imp (λh=>Int.ofNat_lt.2 h)
  have hmem: ∀n∈qlF (qrw names gs sg sg.length).testBit 64,0<=n∧n<names.length:=by
   intro n hn;unfold qlF at hn;obtain⟨k,hk,rfl⟩:=List.mem_map.1 hn;have hk2:=(List.mem_filter.1 hk).2;rw[m2 k]at hk2;obtain⟨j,hj,hm⟩:=of_decide_eq_true hk2;have hf: ¬(nIx names (sg.getD j [])<0∧gIx gs (sg.getD j [])<0):=by
    intro hc
    have:=hz j hj
    unfold qqN at this;rw[ipo hc]at this;cases this
   exact qbK (qkO hok hf) _ hm
  refine⟨λi hi=> ?_,λi h0 hi=> ?_⟩
  ·rw[gdqA,zH hi];exact hmem _ (List.getElem_mem hi)
  ·rw[gdqA,gdqA,zH hi,zH (show i-1<_ by omega)];exact List.pairwise_iff_getElem.1 hsort (i-1) i om hi om
 ·exact⟨λi hi=>absurd hi (nnz i),λi _ hi=>absurd hi (nnz i)⟩
theorem qpj{names:List Str}{gs:List Gr}{sg:List Str}:inB 32 (qco names gs sg):=by
 by_cases h:qhJ names gs sg=0
 ·have h':=h;unfold qhJ at h';split at h'
  ·cases h'
  rename_i h1;have hok:=qsh (by simpa using h1);exact qgB qpi.1 (by have:=hok.n32;omega)
 ·have:qco names gs sg= []:=by unfold qco;rw[ine h]
  rw[this];exact λi hi=>absurd hi (nnz i)
structure Tk where
 text:Str
 norm:Str
 page:Str
 line:Int
 flags:Int
 name:Str
 deriving Inhabited, DecidableEq
def tkC(t:Tk):wg:= [.str t.text,.str t.norm,.str t.page,.int .i64 t.line,.int .i64 t.flags,.str t.name]
def ja(l:List Tk):AV:= .sl l.length λi=>tkC (l.getD i default)
def qp(L:List (List Tk)):AV:= .sl L.length λi=> [ja (L.getD i [])]
def qw(L:List (List Int)):AV:= .sl L.length λi=> [qP (L.getD i [])]
structure Co where
 sec:Str
 sig:List Str
 tok:List (List Tk)
 col:List (List Int)
 deriving Inhabited
def coC(x:Co):wg:= [.str x.sec,strs x.sig,qp x.tok,qw x.col]
structure Rd where
 words:List Str
 src:List Int
 deriving Inhabited, DecidableEq
def rdC(r:Rd):wg:= [strs r.words,qP r.src]
def ky(l:List Rd):AV:= .sl l.length λi=>rdC (l.getD i default)
structure Un where
 frm:Int
 to:Int
 rds:List Rd
 deriving Inhabited, DecidableEq
def unC(u:Un):wg:= [.int .i64 u.frm,.int .i64 u.to,ky u.rds]
def jI(l:List Un):AV:= .sl l.length λi=>unC (l.getD i default)
structure Wd where
 text:Str
 col:Int
 unit:Int
 dec:Int
 joined:Bool
 verse:Bool
 name:Str
 deriving Inhabited, DecidableEq
def wdC(w:Wd):wg:= [.str w.text,.int .i64 w.col,.int .i64 w.unit,.int .i64 w.dec,.bool w.joined,.bool w.verse,.str w.name]
def qee(l:List Wd):AV:= .sl l.length λi=>wdC (l.getD i default)
theorem flag_tksV(L:List Tk):(ja L).flag=true:=rfl
theorem strip_tksV(L:List Tk):(ja L).strip=ja L:=rfl
theorem flag_tkssV(L:List (List Tk)):(qp L).flag=true:=rfl
theorem strip_tkssV(L:List (List Tk)):(qp L).strip=qp L:=rfl
theorem flag_colsV(L:List (List Int)):(qw L).flag=true:=rfl
theorem strip_colsV(L:List (List Int)):(qw L).strip=qw L:=rfl
theorem flag_rdsV(L:List Rd):(ky L).flag=true:=rfl
theorem strip_rdsV(L:List Rd):(ky L).strip=ky L:=rfl
theorem flag_unsV(L:List Un):(jI L).flag=true:=rfl
theorem strip_unsV(L:List Un):(jI L).strip=jI L:=rfl
theorem flag_wdsV(L:List Wd):(qee L).flag=true:=rfl
theorem strip_wdsV(L:List Wd):(qee L).strip=qee L:=rfl
section
variable {fz : Nat -> Bool} {h : we} {n : Nat}
theorem rei_tksV(L:List Tk):rei fz h (n+1) (ja L)=ja L:=rfl
theorem rei_tkssV(L:List (List Tk)):rei fz h (n+1) (qp L)=qp L:=rfl
theorem rei_colsV(L:List (List Int)):rei fz h (n+1) (qw L)=qw L:=rfl
theorem rei_rdsV(L:List Rd):rei fz h (n+1) (ky L)=ky L:=rfl
theorem rei_unsV(L:List Un):rei fz h (n+1) (jI L)=jI L:=rfl
theorem rei_wdsV(L:List Wd):rei fz h (n+1) (qee L)=qee L:=rfl
theorem frz_tksV(L:List Tk):frz fz h (n+1) (ja L)=ja L:=rfl
theorem frz_tkssV(L:List (List Tk)):frz fz h (n+1) (qp L)=qp L:=rfl
theorem frz_colsV(L:List (List Int)):frz fz h (n+1) (qw L)=qw L:=rfl
theorem frz_rdsV(L:List Rd):frz fz h (n+1) (ky L)=ky L:=rfl
theorem frz_unsV(L:List Un):frz fz h (n+1) (jI L)=jI L:=rfl
theorem frz_wdsV(L:List Wd):frz fz h (n+1) (qee L)=qee L:=rfl
end
attribute [go_sem] flag_tksV strip_tksV flag_tkssV strip_tkssV flag_colsV strip_colsV flag_rdsV strip_rdsV flag_unsV strip_unsV flag_wdsV strip_wdsV rei_tksV rei_tkssV rei_colsV rei_rdsV rei_unsV rei_wdsV frz_tksV frz_tkssV frz_colsV frz_rdsV frz_unsV frz_wdsV
def qlg(f:Int):Bool:=f.toNat.testBit 1
def mkB(f:Int):Bool:=f.toNat.testBit 3
def qum(s:Str):Bool:=decide (s= [])||dA s
def qv0(s:Str):Bool:=decide (s.length=1)&&(decide (kind (ch s 0)=5)||decide (kind (ch s 0)=4))
def UX(c:UInt8):Bool:=decide (kind c=1)||(decide (kind c=3)||(decide (kind c=2)||decide (kind c=4)))
def qzM(s:Str):Bool:=decide (s≠ [])&&(decide (s.length<=64)&&(List.range s.length).all λi=>UX (ch s i))
def txB(t:Tk):Bool:=if qlg t.flags=true then qdo t.text&&decide (t.norm=t.text) else if mkB t.flags=true then qv0 t.text&&decide (t.norm=t.text) else jr t.text&&qzM t.norm
def tkE(t:Tk):Int:=
 if t.flags<0∨31<t.flags then 2 else if qlg t.flags=true∧mkB t.flags=true then 8 else if txB t=false then 11 else if t.line<0 then 2 else if qum t.page=false∨qum t.name=false then 14 else 0
def qiM(l:List Tk):Int:=if 1024<l.length then 4 else if jK (λj=>decide (tkE (l.getD j default)≠0)) l.length=true then 1 else 0
def srE(x:Co):Int:=
 if dA x.sec=false then 14 else if x.sig.length=0 then 5 else if 32<x.sig.length then 4 else if qaM (Ux x.sig) 0 x.sig.length≠0 then qaM (Ux x.sig) 0 x.sig.length else
  if x.tok.length≠x.sig.length then 9 else qaM (λi=>qiM (x.tok.getD i [])) 0 x.tok.length
def cnC(col:List (List Int))(s:Nat):Nat->Nat
 |0=>0
 |i+1=>cnC col s i+if (col.getD i []).getD s 0= -1 then 0 else 1
def enB(tok:List (List Tk))(col:List (List Int))(i s:Nat):Bool:=
 decide ((col.getD i []).getD s 0= -1)||(decide ((col.getD i []).getD s 0=(cnC col s i:Int))&&decide ((col.getD i []).getD s 0<((tok.getD s []).length:Int)))
def qfu(tok:List (List Tk))(col:List (List Int))(i:Nat):Bool:=
 decide ((col.getD i []).length=tok.length)&&(!jK (λs=> !enB tok col i s) tok.length&&jK (λs=> !decide ((col.getD i []).getD s 0= -1)) tok.length)
def alB(tok:List (List Tk))(col:List (List Int)):Bool:=
 !jK (λi=> !qfu tok col i) col.length&& !jK (λs=> !decide (cnC col s col.length=(tok.getD s []).length)) tok.length
def coE(x:Co):Int:=if srE x≠0 then srE x else if alB x.tok x.col=false then 19 else 0
structure CoOk (x:Co):Prop where
 sg:0<x.sig.length∧x.sig.length<=32
 tn:x.tok.length=x.sig.length
 tl: ∀s,s<x.tok.length->(x.tok.getD s []).length<=1024
 te: ∀s,s<x.tok.length-> ∀j,j<(x.tok.getD s []).length->tkE ((x.tok.getD s []).getD j default)=0
 cl: ∀i,i<x.col.length->(x.col.getD i []).length=x.sig.length
 ce: ∀i,i<x.col.length-> ∀s,s<x.sig.length->(x.col.getD i []).getD s 0= -1∨((x.col.getD i []).getD s 0=(cnC x.col s i:Int)∧(x.col.getD i []).getD s 0<((x.tok.getD s []).length:Int))
 cs: ∀i,i<x.col.length-> ∃s,s<x.sig.length∧(x.col.getD i []).getD s 0≠ -1
 ct: ∀s,s<x.sig.length->cnC x.col s x.col.length=(x.tok.getD s []).length
theorem qad{x:Co}(h:coE x=0):CoOk x:=by
 unfold coE at h;split at h
 ·rename_i h1;exact absurd h h1
 rename_i h1;have h1:=Classical.not_not.1 h1;split at h
 ·cases h
 rename_i h2;unfold srE at h1;split at h1
 ·cases h1
 split at h1
 ·cases h1
 rename_i g2;split at h1
 ·cases h1
 rename_i g3;split at h1
 ·rename_i g4;exact absurd h1 g4
 split at h1
 ·cases h1
 rename_i g5;have g5:=Classical.not_not.1 g5;have h3:=jR.1 h1;have h2:alB x.tok x.col=true:=by simpa using h2
 unfold alB at h2;rw[Bool.and_eq_true,Bool.not_eq_true',Bool.not_eq_true',qu,qu]at h2;obtain⟨h4,h5⟩:=h2;have h6: ∀i,i<x.col.length->qfu x.tok x.col i=true:=λi hi=>by simpa using h4 i hi
 have hrow: ∀s,s<x.tok.length->(x.tok.getD s []).length<=1024∧ ∀j,j<(x.tok.getD s []).length->tkE ((x.tok.getD s []).getD j default)=0:=λs hs=>by
  have:=h3 s hs
  unfold qiM at this;split at this
  ·cases this
  rename_i k1;split at this
  ·cases this
  rename_i k2;refine⟨om,λj hj=> ?_⟩
  have:=qu.1 (by simpa using k2) j hj
  simpa using this
 refine⟨om,g5,λs hs=>(hrow s hs).1,λs hs=>(hrow s hs).2,λi hi=> ?_,λi hi s hs=> ?_,λi hi=> ?_,λs hs=> ?_⟩
 ·have:=h6 i hi
  unfold qfu at this;rw[Bool.and_eq_true,decide_eq_true_iff]at this;omega
 ·have:=h6 i hi
  unfold qfu at this;rw[Bool.and_eq_true,Bool.and_eq_true,Bool.not_eq_true',qu]at this
  have:=this.2.1 s om
  have this:enB x.tok x.col i s=true:=by simpa using this
  unfold enB at this;simpa[Bool.or_eq_true,Bool.and_eq_true] using this
 ·have:=h6 i hi
  unfold qfu at this;rw[Bool.and_eq_true,Bool.and_eq_true]at this;obtain⟨s,hs,hv⟩:=qZ.1 this.2.2;exact⟨s,om,by simpa using hv⟩
 ·have:=h5 s om
  simpa using this
def clT(x:Co)(k s:Nat):Option Str:=if (x.col.getD k []).getD s 0<0 then none else some ((x.tok.getD s []).getD ((x.col.getD k []).getD s 0).toNat default).text
def cmB(x:Co)(k:Nat):Bool:= !jK (λs=>decide (clT x k s=none)|| !decide (clT x k s=clT x k 0)) x.sig.length
def rdG(x:Co)(s f:Nat):Nat->List Str
 |0=> []
 |d+1=>rdG x s f d++(clT x (f+d) s).toList
theorem qdJ(x:Co)(s f:Nat): ∀d,(rdG x s f d).length<=d:=by
 intro d
 induction d with
 |zero=>exact nlr _
 |succ d ih=>
  unfold rdG;rw[lap];cases clT x (f+d) s with
  |none=>simp only[Option.toList_none,lnl];omega
  |some w=>simp only[Option.toList_some,lco,lnl];omega
def qi5(L:List Rd)(w:List Str):Int:=qbF (λj=>decide (w=(L.getD j default).words)) L.length 0
def qfg(L:List Rd)(w:List Str)(s:Nat):List Rd:=if qi5 L w<0 then L++ [⟨w,[(s:Int)]⟩] else L.set (qi5 L w).toNat ⟨w,(L.getD (qi5 L w).toNat default).src++ [(s:Int)]⟩
def qbj(x:Co)(f d:Nat):Nat->List Rd
 |0=> []
 |s+1=>qfg (qbj x f d s) (rdG x s f d) s
def qeb(x:Co)(f t:Nat):List Rd:=qbj x f (t-f) x.sig.length
theorem qoo(L:List Rd)(w:List Str)(s:Nat):(qfg L w s).length<=L.length+1:=by
 unfold qfg;split
 ·simp
 ·rw[List.length_set];omega
theorem qgT(x:Co)(f d:Nat): ∀s,(qbj x f d s).length<=s:=by
 intro s
 induction s with
 |zero=>exact nlr _
 |succ s ih=>
  have:=qoo (qbj x f d s) (rdG x s f d) s
  unfold qbj;omega
def unB(x:Co)(beh:Int)(u:Un):Bool:= !(decide (u.frm<=beh)||(decide (u.frm<0)||(decide (u.to<=u.frm)||(decide ((x.col.length:Int)<u.to)|| !decide (u.rds=qeb x u.frm.toNat u.to.toNat)))))
def beH(l:List Un)(i:Nat):Int:=if i=0 then-1 else (l.getD (i-1) default).to
def qci(x:Co)(l:List Un):Bool:= !jK (λi=> !unB x (beH l i) (l.getD i default)) l.length
def cvB(l:List Un)(k:Nat):Bool:=jK (λi=>decide ((l.getD i default).frm<=k)&&decide ((k:Int)<(l.getD i default).to)) l.length
def cvA(x:Co)(l:List Un):Bool:= !jK (λk=> !cvB l k&& !cmB x k) x.col.length
def rgB(x:Co)(l:List Un):Bool:=qci x l&&cvA x l
def vaE(x:Co)(l:List Un):Int:=if coE x≠0 then 1 else if rgB x l=false then 20 else 0
def nxt(p:Nat->Bool):Nat->Nat->Nat
 |0,k=>k
 |d+1,k=>if p k=true then k else nxt p d (k+1)
theorem qgF(p:Nat->Bool): ∀d k,k<=nxt p d k∧nxt p d k<=k+d∧(∀j,k<=j->j<nxt p d k->p j=false)∧(nxt p d k<k+d->p (nxt p d k)=true):=by
 intro d
 induction d with
 |zero=>intro k;exact⟨nlr _,nlr _,λj h1 h2=>by unfold nxt at h2;omega,λh=>by unfold nxt at h;omega⟩
 |succ d ih=>
  intro k;unfold nxt;split
  ·rename_i h;exact⟨nlr _,om,λj h1 h2=>by omega,λ_=>h⟩
  ·rename_i h;obtain⟨h1,h2,h3,h4⟩:=ih (k+1);refine⟨om,om,λj g1 g2=> ?_,λg=>h4 om⟩
   by_cases e:j=k
   ·subst e;simpa using h
   ·exact h3 j om g2
def kB(p:Nat->Bool)(n:Nat):Nat->Nat->List (Nat×Nat)
 |0,_=> []
 |d+1,f=>if n<=f then [] else (if f<nxt p (n-f) f then [(f,nxt p (n-f) f)] else [])++kB p n d (nxt p (n-f) f+1)
def qc4(p:Nat->Bool)(n:Nat):List (Nat×Nat):=kB p n (n+1) 0
theorem qdK(p:Nat->Bool)(n:Nat): ∀d f,(∀r∈kB p n d f,f<=r.1∧r.1<r.2∧r.2<=n∧ ∀k,r.1<=k->k<r.2->p k=false)∧(n-f<d-> ∀k,f<=k->k<n->p k=false-> ∃r∈kB p n d f,r.1<=k∧k<r.2):=by
 intro d
 induction d with
 |zero=>intro f;exact⟨λr hr=>absurd hr List.not_mem_nil,λh=>absurd h (nnz _)⟩
 |succ d ih=>
  intro f;unfold kB;split
  ·rename_i h;exact⟨λr hr=>absurd hr List.not_mem_nil,λ_ k h1 h2=>by omega⟩
  ·rename_i h;obtain⟨h1,h2,h3,h4⟩:=qgF p (n-f) f;obtain⟨i1,i2⟩:=ih (nxt p (n-f) f+1);obtain⟨t,ht⟩:=wc (nxt p (n-f) f)
   rw[<-ht]at h1 h2 h3 h4 i1 i2 ⊢;refine⟨λr hr=> ?_,λhd k k1 k2 k3=> ?_⟩
   ·rcases List.mem_append.1 hr with hr|hr
    ·split at hr
     ·rename_i hft;rw[List.mem_singleton]at hr;subst hr;exact⟨nlr _,hft,by simp only;omega,h3⟩
     ·cases hr
    ·obtain⟨g1,g2⟩:=i1 r hr;exact⟨om,g2⟩
   ·by_cases hk:k<t
    ·refine⟨(f,t),List.mem_append_left _ ?_,k1,hk⟩;rw[ipo om];exact List.mem_singleton.2 rfl
    ·have hne:k≠t:=λe=>by
      subst e;rw[h4 om]at k3;cases k3
     obtain⟨r,hr,g⟩:=i2 om k om k2 k3;exact⟨r,List.mem_append_right _ hr,g⟩
theorem qmP{p:Nat->Bool}{n:Nat}{r:Nat×Nat}(hr:r∈qc4 p n):r.1<r.2∧r.2<=n∧ ∀k,r.1<=k->k<r.2->p k=false:=((qdK p n (n+1) 0).1 r hr).2
theorem qgZ{p:Nat->Bool}{n k:Nat}(hk:k<n)(hp:p k=false): ∃r∈qc4 p n,r.1<=k∧k<r.2:=(qdK p n (n+1) 0).2 om k (nzl _) hk hp
structure qD5 (x:Co) (l:List Un):Prop where
 pw:l.Pairwise λa b=>a.to<b.frm
 rg: ∀u∈l,0<=u.frm∧u.frm<u.to∧u.to<=x.col.length∧u.rds=qeb x u.frm.toNat u.to.toNat
theorem qnC{x:Co}{beh:Int}{u:Un}:unB x beh u=true↔beh<u.frm∧0<=u.frm∧u.frm<u.to∧u.to<=x.col.length∧u.rds=qeb x u.frm.toNat u.to.toNat:=by
 unfold unB;simp only[Bool.not_eq_true',Bool.or_eq_false_iff,decide_eq_false_iff_not,Bool.not_eq_false',decide_eq_true_eq];constructor
 ·rintro⟨h1,h2,h3,h4,h5⟩;exact⟨om,om,om,om,h5⟩
 ·rintro⟨h1,h2,h3,h4,h5⟩;exact⟨om,om,om,om,h5⟩
theorem qf7{x:Co}{l:List Un}(h:qci x l=true):qD5 x l:=by
 unfold qci at h;rw[Bool.not_eq_true',qu]at h;have h1: ∀i,i<l.length->beH l i<(l.getD i default).frm∧0<=(l.getD i default).frm∧(l.getD i default).frm<(l.getD i default).to∧(l.getD i default).to<=x.col.length∧(l.getD i default).rds=qeb x (l.getD i default).frm.toNat (l.getD i default).to.toNat:=λi hi=>
  qnC.1 (by simpa using h i hi)
 have g: ∀i (hi:i<l.length),l.getD i default=l[i]:=λi hi=>by rw[gdqA,zH hi];rfl
 refine⟨List.pairwise_iff_getElem.2 λi j hi hj hij=> ?_,λu hu=> ?_⟩
 ·have key: ∀d,i+1+d<l.length->(l.getD i default).to<(l.getD (i+1+d) default).frm:=by
   intro d
   induction d with
   |zero=>
    intro hd
    have:=(h1 (i+1) hd).1
    unfold beH at this;rw[ine om,Nat.add_sub_cancel]at this;exact this
   |succ d ih=>
    intro hd;have h2:=ih om;have h3:=(h1 (i+1+d) om).2.2.1;have h4:=(h1 (i+1+d+1) om).1;unfold beH at h4;rw[ine om,Nat.add_sub_cancel]at h4;rw[<-Nat.add_assoc];omega
  have:=key (j-(i+1)) om
  rw[show i+1+(j-(i+1))=j by omega,g i hi,g j hj]at this;exact this
 ·obtain⟨i,hi,rfl⟩:=List.getElem_of_mem hu
  have:=(h1 i hi).2
  rw[g i hi]at this;exact this
theorem qkG{l:List Un}{k:Nat}:cvB l k=true↔ ∃u∈l,u.frm<=k∧(k:Int)<u.to:=by
 unfold cvB;rw[qZ];constructor
 ·rintro⟨i,hi,h⟩;rw[gdqA,zH hi,Bool.and_eq_true,decide_eq_true_iff,decide_eq_true_iff]at h;exact⟨_,List.getElem_mem hi,h⟩
 ·rintro⟨u,hu,h⟩;obtain⟨i,hi,rfl⟩:=List.getElem_of_mem hu;refine⟨i,hi,?_⟩;rw[gdqA,zH hi,Bool.and_eq_true,decide_eq_true_iff,decide_eq_true_iff];exact h
def rnB(l:List Un)(r:Nat×Nat):Bool:=jK (λi=>decide ((l.getD i default).frm<=r.1)&&decide ((r.2:Int)<=(l.getD i default).to)) l.length
theorem qmH{l:List Un}{r:Nat×Nat}:rnB l r=true↔ ∃u∈l,u.frm<=r.1∧(r.2:Int)<=u.to:=by
 unfold rnB;rw[qZ];constructor
 ·rintro⟨i,hi,h⟩;rw[gdqA,zH hi,Bool.and_eq_true,decide_eq_true_iff,decide_eq_true_iff]at h;exact⟨_,List.getElem_mem hi,h⟩
 ·rintro⟨u,hu,h⟩;obtain⟨i,hi,rfl⟩:=List.getElem_of_mem hu;refine⟨i,hi,?_⟩;rw[gdqA,zH hi,Bool.and_eq_true,decide_eq_true_iff,decide_eq_true_iff];exact h
theorem qpT{α:Type}{L:List α}{R:α->α->Prop}(h:L.Pairwise R){a b:α}(ha:a∈L)(hb:b∈L)(hne:a≠b):R a b∨R b a:=by
 induction L with
 |nil=>cases ha
 |cons c r ih=>
  obtain⟨h1,h2⟩:=List.pairwise_cons.1 h;rcases List.mem_cons.1 ha with ea|na
  ·rcases List.mem_cons.1 hb with eb|nb
   ·exact absurd (ea.trans eb.symm) hne
   ·rw[ea];exact .inl (h1 b nb)
  ·rcases List.mem_cons.1 hb with eb|nb
   ·rw[eb];exact .inr (h1 a na)
   ·exact ih h2 na nb
theorem qts{x:Co}{l:List Un}(h:qci x l=true):((qc4 (cmB x) x.col.length).all (rnB l)=true)↔cvA x l=true:=by
 have ho:=qf7 h;unfold cvA;rw[List.all_eq_true,Bool.not_eq_true',qu];constructor
 ·intro hr k hk;cases hc:cmB x k with
  |true=>simp
  |false=>
   obtain⟨r,hr1,r1,r2⟩:=qgZ hk hc;obtain⟨u,hu,u1,u2⟩:=qmH.1 (hr r hr1);rw[qkG.2 ⟨u,hu,om,om⟩];rfl
 ·intro hk r hr;obtain⟨r1,r2,r3⟩:=qmP hr;have cov: ∀k,r.1<=k->k<r.2-> ∃u∈l,u.frm<=(k:Int)∧(k:Int)<u.to:=λk h1 h2=>by
   have h3:=hk k om;rw[r3 k h1 h2,Bool.not_false,Bool.and_true,Bool.not_eq_false']at h3;exact qkG.1 h3
  obtain⟨u,hu,u1,u2⟩:=cov r.1 (nlr _) r1;refine qmH.2 ⟨u,hu,u1,?_⟩
  by_cases ht:(r.2:Int)<=u.to
  ·exact ht
  ·exfalso;have hur:=ho.rg u hu;obtain⟨k,hk2⟩: ∃k:Nat,u.to=(k:Int):=⟨u.to.toNat,om⟩
   obtain⟨v,hv,v1,v2⟩:=cov k om om;have hvr:=ho.rg v hv
   by_cases e:u=v
   ·subst e;omega
   ·rcases qpT ho.pw hu hv e with h1|h1
    ·omega
    ·omega
def fnU(l:List Un)(c:Int):Int:=qbF (λi=>decide ((l.getD i default).frm<=c)&&decide (c<(l.getD i default).to)) l.length 0
theorem qtR(l:List Un)(c:Int): -1<=fnU l c∧fnU l c<l.length:=by
 unfold fnU;rcases zT (λi=>decide ((l.getD i default).frm<=c)&&decide (c<(l.getD i default).to)) l.length with⟨i,h1,_,_,h4⟩|⟨_,h2⟩
 ·rw[h4];omega
 ·rw[h2];omega
structure Va where
 words:List Str
 sigla:List Str
 deriving Inhabited
structure En where
 layer:Int
 frm:Int
 to:Int
 pos:Bool
 sup:List Str
 vars:List Va
 deriving Inhabited
def vaC(v:Va):wg:= [strs v.words,strs v.sigla]
def qsn(vs:List Va):AV:= .sl vs.length λi=>vaC (vs.getD i default)
def enC(e:En):wg:= [.int .i64 e.layer,.int .i64 e.frm,.int .i64 e.to,.bool e.pos,strs e.sup,qsn e.vars]
def qod(l:List En):AV:= .sl l.length λi=>enC (l.getD i default)
theorem qk3(L:List Va):(qsn L).flag=true:=rfl
theorem qiK(L:List Va):(qsn L).strip=qsn L:=rfl
theorem qpD{fz:Nat->Bool}{h:we}{n:Nat}(L:List Va):frz fz h (n+1) (qsn L)=qsn L:=rfl
theorem qqE{fz:Nat->Bool}{h:we}{n:Nat}(L:List Va):rei fz h (n+1) (qsn L)=qsn L:=rfl
theorem qkY(L:List En):(qod L).flag=true:=rfl
theorem qiF(L:List En):(qod L).strip=qod L:=rfl
theorem qpz{fz:Nat->Bool}{h:we}{n:Nat}(L:List En):frz fz h (n+1) (qod L)=qod L:=rfl
theorem qqA{fz:Nat->Bool}{h:we}{n:Nat}(L:List En):rei fz h (n+1) (qod L)=qod L:=rfl
attribute [go_sem] qk3 qiK qpD qqE qkY qiF qpz qqA
theorem qCa(ws:List Str)(m:Nat)(k:Nat->Str)(h:we)(h1:ws.length<=1000000000)(h2:m<=1000000000):
  ACalls Tryz.prog 18 [strs ws,.sl m (λj=> [.str (k j)])] h (.bool (decide (ws.length=m∧ ∀i,i<ws.length->ws.getD i []=k i))) h:=by
 unfold strs
 have:=qDM qCg ws.length m (λj=> .s (ws.getD j [])) (λj=> .s (k j)) h (λ_ _ _=>rfl) om om
 simpa only[At.v,At.s.injEq] using this
theorem UY{α:Type}[Inhabited α]{a b:List α}(d:α):a=b↔a.length=b.length∧ ∀i,i<a.length->a.getD i d=b.getD i d:=by
 constructor
 ·rintro rfl;exact⟨rfl,λ_ _=>rfl⟩
 ·rintro⟨h1,h2⟩;apply List.ext_getElem h1;intro i h3 h4
  have:=h2 i h3
  rw[gdqA,gdqA,zH h3,zH h4]at this;exact this
def qoi(t:List Str)(f g:Nat):List Str:=(t.drop f).take (g-f)
theorem qq9{t:List Str}{f g:Nat}(h1:f<=g)(h2:g<=t.length):(qoi t f g).length=g-f:=by unfold qoi;simp;omega
def qrm(t:List Str)(e:En)(i:Nat):Int:=
 if qn9 (e.vars.getD i default).words≠0 then 11 else if (e.vars.getD i default).words=qoi t e.frm.toNat e.to.toNat then 9 else
  if jK (λj=>decide ((e.vars.getD i default).words=(e.vars.getD j default).words)) i=true then 7 else if (e.vars.getD i default).sigla.length=0 then 5 else 0
def cnt(names:List Str)(gs:List Gr)(e:En):Nat->List Int
 |0=>qrz (List.replicate 32 0) (qco names gs e.sup)
 |i+1=>qrz (cnt names gs e i) (qco names gs (e.vars.getD i default).sigla)
def qvt(C:List Int):Bool:=jK (λi=>decide (1<C.getD i 0)) C.length
def qv4(t:List Str)(e:En):Prop:=e.layer<0∨16<=e.layer∨e.frm<0∨e.to<e.frm∨(t.length:Int)<e.to
instance (t:List Str) (e:En):Decidable (qv4 t e):=by unfold qv4;infer_instance
def qBW(names:List Str)(gs:List Gr)(t:List Str)(e:En):Int:=
 if sgE names gs≠0 then 1 else if 4096<t.length then 4 else if qn9 t≠0 then 11 else if qv4 t e then 2 else
  if 0<e.sup.length∧e.pos=false then 1 else if e.vars.length=0 then 5 else
   if qaM (qrm t e) 0 e.vars.length≠0 then qaM (qrm t e) 0 e.vars.length else
    if qhJ names gs e.sup≠0 then qhJ names gs e.sup else
     if qaM (λi=>qhJ names gs (e.vars.getD i default).sigla) 0 e.vars.length≠0 then qaM (λi=>qhJ names gs (e.vars.getD i default).sigla) 0 e.vars.length else
      if qvt (cnt names gs e e.vars.length)=true then 17 else 0
theorem fmI(l:List Int):List.flatMap (λi=> [AV.int .i64 (l.getD i 0)]) (List.range l.length)=qU l:=by
 induction l with
 |nil=>rfl
 |cons a l ih=>
  rw[lco,List.range_succ_eq_map,List.flatMap_cons,List.flatMap_map];show AV.int .i64 a::List.flatMap (λi=> [AV.int .i64 (l.getD i 0)]) (List.range l.length)=_;rw[ih];rfl
theorem qpS{p:Nat->Bool}{n:Nat}{x:Int}:x∈qlF p n↔ ∃k:Nat,k<n∧p k=true∧x=k:=by
 unfold qlF;constructor
 ·intro h;obtain⟨k,hk,rfl⟩:=List.mem_map.1 h;obtain⟨h1,h2⟩:=List.mem_filter.1 hk;exact⟨k,List.mem_range.1 h1,h2,rfl⟩
 ·rintro⟨k,h1,h2,rfl⟩;exact List.mem_map.2 ⟨k,List.mem_filter.2 ⟨List.mem_range.2 h1,h2⟩,rfl⟩
def qi9(names:List Str)(gs:List Gr)(e:En):Nat->List Int×Bool
 |0=>(qco names gs e.sup,false)
 |i+1=>(qlF (λk=>decide ((k:Int)∈(qi9 names gs e i).1)||decide ((k:Int)∈qco names gs (e.vars.getD i default).sigla)) 64,(qi9 names gs e i).2||(qi9 names gs e i).1.any λx=>decide (x∈qco names gs (e.vars.getD i default).sigla))
theorem qol(names:List Str)(gs:List Gr)(e:En)(i:Nat):qi9 names gs e (i+1)=(qlF (λk=>decide ((k:Int)∈(qi9 names gs e i).1)||decide ((k:Int)∈qco names gs (e.vars.getD i default).sigla)) 64,(qi9 names gs e i).2||(qi9 names gs e i).1.any λx=>decide (x∈qco names gs (e.vars.getD i default).sigla)):=rfl
theorem qoD(L:List Int): ∀(C:List Int) (j:Nat),L.Nodup->(∀x∈L,0<=x∧x<C.length)->j<C.length->(qrz C L).getD j 0=C.getD j 0+if (j:Int)∈L then 1 else 0:=by
 induction L with
 |nil=>intro C j _ _ _;simp[qrz]
 |cons n L ih=>
  intro C j hn hL hj;obtain⟨h1,h2⟩:=List.nodup_cons.1 hn;have hb:=hL n (by simp);show (qrz (C.set n.toNat (C.getD n.toNat 0+1)) L).getD j 0=_;rw[ih _ j h2 (λx hx=>by rw[List.length_set];exact hL x (by simp[hx])) (by rw[List.length_set];exact hj)]
  by_cases e:(j:Int)=n
  ·have e2:n.toNat=j:=by omega
   have e3: ¬(j:Int)∈L:=by rw[e];exact h1
   rw[ine e3,ipo (by rw[e];simp),e2]
   have:(C.set j (C.getD j 0+1)).getD j 0=C.getD j 0+1:=by
    rw[gdqA,List.getElem?_set_self hj];rfl
   rw[this];omega
  ·have e2: ¬n.toNat=j:=by omega
   have:(C.set n.toNat (C.getD n.toNat 0+1)).getD j 0=C.getD j 0:=by
    rw[gdqA,List.getElem?_set_ne e2,<-gdqA]
   rw[this];congr 1;simp[e]
theorem qh2(p:Nat->Bool)(n:Nat):(qlF p n).Nodup:=by
 unfold qlF;rw[List.Nodup,List.pairwise_map];refine List.Pairwise.imp ?_ (List.Pairwise.filter _ List.nodup_range);intro a b hab hc;exact hab (by have hx:(a:Int)=(b:Int):=hc;omega)
theorem qcN(names:List Str)(gs:List Gr)(sg:List Str):(qco names gs sg).Nodup:=by
 unfold qco;split
 ·exact qh2 _ _
 ·exact List.nodup_nil
structure qBp (A:List Int) (B:Bool) (C:List Int):Prop where
 len:C.length=32
 rng: ∀x∈A,0<=x∧x<32
 mem: ∀k:Nat,k<32->((k:Int)∈A↔1<=C.getD k 0)
 nn: ∀k:Nat,k<32->0<=C.getD k 0
 tw:B=true↔ ∃k:Nat,k<32∧1<C.getD k 0
theorem qgC{A O A' C:List Int}{B:Bool}(h:qBp A B C)(ho:O.Nodup)(hr: ∀x∈O,0<=x∧x<32)(hA: ∀x,x∈A'↔x∈A∨x∈O):qBp A' (B||A.any λx=>decide (x∈O)) (qrz C O):=by
 have hl:=h.len;have hg:=λ(k:Nat) (hk:k<32)=>qoD O C k ho (λx hx=>by have:=hr x hx;omega) om
 refine⟨by rw[qoE,hl],λx hx=> ?_,λk hk=> ?_,λk hk=> ?_,?_⟩
 ·rcases (hA x).1 hx with hx|hx
  ·exact h.rng x hx
  ·exact hr x hx
 ·rw[hA,h.mem k hk,hg k hk]
  have:=h.nn k hk
  by_cases e:(k:Int)∈O
  ·rw[ipo e];exact⟨λ_=>by omega,λ_=> .inr e⟩
  ·rw[ine e];constructor
   ·rintro (h1|h1)
    ·omega
    ·exact absurd h1 e
   ·intro h1;exact .inl om
 ·rw[hg k hk]
  have:=h.nn k hk
  split<;>omega
 ·rw[Bool.or_eq_true,h.tw,List.any_eq_true];constructor
  ·rintro (⟨k,hk,h1⟩|⟨x,hx,h1⟩)
   ·refine⟨k,hk,?_⟩;rw[hg k hk];split<;>omega
   ·have h1:=of_decide_eq_true h1;have hx2:=h.rng x hx;have e:((x.toNat:Nat):Int)=x:=by omega
    refine⟨x.toNat,om,?_⟩;rw[hg _ om,e,ipo h1]
    have:=(h.mem x.toNat om).1 (by rw[e];exact hx)
    omega
  ·rintro⟨k,hk,h1⟩;rw[hg k hk]at h1
   by_cases e:(k:Int)∈O
   ·rw[ipo e]at h1;exact .inr ⟨(k:Int),(h.mem k hk).2 om,dqt e⟩
   ·rw[ine e]at h1;exact .inl ⟨k,hk,om⟩
theorem qt9:qBp [] false (List.replicate 32 0):=by
 have g: ∀k:Nat,k<32->(List.replicate 32 (0:Int)).getD k 0=0:=λk hk=>by
  rw[gdqA,List.getElem?_replicate,ipo hk];rfl
 refine⟨by simp,λx hx=>by simp at hx,λk hk=> ?_,λk hk=> ?_,?_⟩
 ·rw[g k hk];simp
 ·rw[g k hk];omega
 ·constructor
  ·intro h;cases h
  ·rintro⟨k,hk,h1⟩;rw[g k hk]at h1;omega
theorem qsw(names:List Str)(gs:List Gr)(e:En): ∀i,qBp (qi9 names gs e i).1 (qi9 names gs e i).2 (cnt names gs e i):=by
 have hO:=λsg=>qbK (@qpj names gs sg)
 intro i
 induction i with
 |zero=>
  have:=qgC (A':=qco names gs e.sup) qt9 (qcN names gs e.sup) (hO e.sup) (λx=>by simp)
  exact this
 |succ i ih=>
  rw[qol];unfold cnt;refine qgC ih (qcN _ _ _) (hO _) (λx=> ?_);rw[qpS];constructor
  ·rintro⟨k,hk,h1,rfl⟩;simpa using h1
  ·intro hx;have hb:0<=x∧x<32:=by
    rcases hx with hx|hx
    ·exact ih.rng x hx
    ·exact hO _ x hx
   have e:((x.toNat:Nat):Int)=x:=by omega
   refine⟨x.toNat,om,?_,e.symm⟩;simp only[e];simpa using hx
theorem qef(names:List Str)(gs:List Gr)(e:En)(i:Nat):qvt (cnt names gs e i)=(qi9 names gs e i).2:=by
 have h:=qsw names gs e i;unfold qvt;rw[h.len,Bool.eq_iff_iff,h.tw,qZ];simp only[decide_eq_true_eq]
def inV(names:List Str)(gs:List Gr)(e:En)(src:Int)(i:Nat):Bool:=decide (src∈qco names gs (e.vars.getD i default).sigla)
def vIx(names:List Str)(gs:List Gr)(e:En)(src:Int):Int:=qbF (inV names gs e src) e.vars.length 0
def qgk(a b:En):Bool:=decide (a.frm<b.frm)||decide (a.frm=b.frm)&&decide (a.to<b.to)
end RC
end
section
open Go Go.Proofs AF
end
section
open Go Go.Proofs AF HY LN
namespace RC
end RC
end
section
namespace RC
variable {α : Type}
def qcs(lt:α->α->Bool)(x:α):List α->List α
 | []=> [x]
 |y::r=>if lt x y=true then y::qcs lt x r else x::y::r
def qe0(lt:α->α->Bool):List α->List α->List α
 |acc,[]=>acc
 |acc,x::r=>qe0 lt (qcs lt x acc) r
def qv7(lt:α->α->Bool):Prop:= ∀a b c,lt a b=false->lt b c=false->lt a c=false
def Asy(lt:α->α->Bool):Prop:= ∀a b,lt a b=true->lt b a=false
def qvV(lt:α->α->Bool)(l:List α):Prop:=l.Pairwise λa b=>lt a b=false
theorem qpL{lt:α->α->Bool}{x:α}: ∀ {l:List α} {z:α},z∈qcs lt x l↔z=x∨z∈l:=by
 intro l
 induction l with
 |nil=>intro z;simp[qcs]
 |cons y r ih=>
  intro z;unfold qcs;split
  ·simp only[List.mem_cons,ih];constructor
   ·rintro (h|h|h)
    ·exact .inr (.inl h)
    ·exact .inl h
    ·exact .inr (.inr h)
   ·rintro (h|h|h)
    ·exact .inr (.inl h)
    ·exact .inl h
    ·exact .inr (.inr h)
  ·simp
theorem qb5{lt:α->α->Bool}(hn:qv7 lt)(ha:Asy lt){x:α}: ∀ {l:List α},qvV lt l->qvV lt (qcs lt x l):=by
 intro l
 induction l with
 |nil=>intro _;exact List.pairwise_singleton _ _
 |cons y r ih=>
  intro h;obtain⟨h1,h2⟩:=List.pairwise_cons.1 h;unfold qcs
  by_cases g:lt x y=true
  ·rw[ipo g];refine List.pairwise_cons.2 ⟨λz hz=> ?_,ih h2⟩;rcases qpL.1 hz with rfl|hz
   ·exact ha _ _ g
   ·exact h1 z hz
  ·rw[ine g];have g:lt x y=false:=by simpa using g
   refine List.pairwise_cons.2 ⟨λz hz=> ?_,h⟩;rcases List.mem_cons.1 hz with rfl|hz
   ·exact g
   ·exact hn _ _ _ g (h1 z hz)
theorem qlr{lt:α->α->Bool}{x:α}{l:List α}(h: ∀z∈l,lt x z=false):qcs lt x l=x::l:=by
 cases l with
 |nil=>rfl
 |cons y r=>
  unfold qcs;rw[ine (by rw[h y (by simp)];simp)]
theorem qfz{lt:α->α->Bool}(hn:qv7 lt)(p:α->Bool)(x:α): ∀ {l:List α},qvV lt l->(qcs lt x l).filter p=if p x=true then qcs lt x (l.filter p) else l.filter p:=by
 intro l
 induction l with
 |nil=>intro _;unfold qcs;by_cases h:p x=true<;>simp[h,qcs]
 |cons y r ih=>
  intro h;obtain⟨h1,h2⟩:=List.pairwise_cons.1 h
  by_cases g:lt x y=true
  ·have e:qcs lt x (y::r)=y::qcs lt x r:=by rw[qcs,ipo g]
   rw[e,List.filter_cons,List.filter_cons,ih h2]
   by_cases hy:p y=true
   ·rw[ipo hy,ipo hy]
    by_cases hx:p x=true
    ·rw[ipo hx,ipo hx,qcs,ipo g]
    ·rw[ine hx,ine hx]
   ·rw[ine hy,ine hy]
  ·have e:qcs lt x (y::r)=x::y::r:=by rw[qcs,ine g]
   have g:lt x y=false:=by simpa using g
   rw[e]
   by_cases hx:p x=true
   ·rw[ipo hx,List.filter_cons,ipo hx,qlr];intro z hz;rcases List.mem_cons.1 (List.mem_filter.1 hz).1 with rfl|hz
    ·exact g
    ·exact hn _ _ _ g (h1 z hz)
   ·rw[ine hx,List.filter_cons,ine hx]
theorem qes{lt:α->α->Bool}(hn:qv7 lt)(ha:Asy lt)(p:α->Bool): ∀(l acc:List α),qvV lt acc->(qe0 lt acc l).filter p=qe0 lt (acc.filter p) (l.filter p):=by
 intro l
 induction l with
 |nil=>intro acc _;rfl
 |cons x r ih=>
  intro acc h;rw[qe0,ih _ (qb5 hn ha h),qfz hn p x h,List.filter_cons]
  by_cases hx:p x=true
  ·rw[ipo hx,ipo hx,qe0]
  ·rw[ine hx,ine hx]
theorem qe1{lt:α->α->Bool}(hn:qv7 lt)(ha:Asy lt): ∀(l acc:List α),qvV lt acc->qvV lt (qe0 lt acc l):=by
 intro l
 induction l with
 |nil=>intro acc h;exact h
 |cons x r ih=>intro acc h;exact ih _ (qb5 hn ha h)
end RC
end
section
namespace RC
variable {α : Type}
end RC
end
section
open Go Go.Proofs AF HY LN
namespace RC
theorem U7{a b:En}:qgk a b=true↔a.frm<b.frm∨a.frm=b.frm∧a.to<b.to:=by
 unfold qgk;simp[Bool.or_eq_true,Bool.and_eq_true]
theorem qaK{a b:En}:qgk a b=false↔b.frm<a.frm∨a.frm=b.frm∧b.to<=a.to:=by
 have:= @U7 a b
 cases h:qgk a b with
 |true=>rw[h]at this;simp only[true_iff]at this;simp only[Bool.true_eq_false,false_iff];omega
 |false=>rw[h]at this;simp only[Bool.false_eq_true,false_iff]at this;simp only[true_iff];omega
theorem qgm:qv7 qgk:=by
 intro a b c h1 h2;rw[qaK]at*;omega
theorem qgl:Asy qgk:=by
 intro a b h;rw[U7]at h;rw[qaK];omega
def qv6(l:List En):List En:=(qe0 qgk [] l).reverse
def qEv(names:List Str)(gs:List Gr)(src:Int)(e:En):Bool:=decide (0<=vIx names gs e src)
def ofE(names:List Str)(gs:List Gr)(l:List En)(src:Int):List En:=(qv6 l).filter (qEv names gs src)
theorem qls{α:Type}{lt:α->α->Bool}{x:α}: ∀l:List α,(qcs lt x l).Perm (x::l):=by
 intro l
 induction l with
 |nil=>exact List.Perm.refl _
 |cons y r ih=>
  unfold qcs;split
  ·exact (List.Perm.cons y ih).trans (List.Perm.swap x y r)
  ·exact List.Perm.refl _
theorem qir{α:Type}{lt:α->α->Bool}: ∀l acc:List α,(qe0 lt acc l).Perm (acc++l):=by
 intro l
 induction l with
 |nil=>intro acc;rw[lan];exact List.Perm.refl _
 |cons x r ih=>
  intro acc;refine (ih _).trans ((List.Perm.append_right r (qls acc)).trans ?_);exact (List.perm_middle (a:=x) (l₁:=acc) (l₂:=r)).symm
theorem qe3(l:List En):(qv6 l).Perm l:=(List.reverse_perm _).trans (by simpa using qir (lt:=qgk) l [])
theorem qfW(l:List En):(qv6 l).Pairwise λa b=>qgk b a=false:=by
 unfold qv6;rw[List.pairwise_reverse];exact qe1 qgm qgl l [] List.Pairwise.nil
def qbZ(a b:En):Bool:=decide (b.frm<a.to)||decide (a.frm=b.frm)&&decide (a.to=b.to)
def gL:List En->Bool
 |a::b::r=>qbZ a b||gL (b::r)
 |_=>false
theorem qky(L:List En):gL L=true↔ ∃i,i+1<L.length∧qbZ (L.getD i default) (L.getD (i+1) default)=true:=by
 induction L with
 |nil=>simp[gL]
 |cons a L ih=>
  cases L with
  |nil=>simp[gL]
  |cons b r=>
   rw[gL,Bool.or_eq_true,ih];constructor
   ·rintro (h|⟨i,h1,h2⟩)
    ·exact⟨0,by simp,h⟩
    ·exact⟨i+1,by simpa using h1,h2⟩
   ·rintro⟨i,h1,h2⟩;cases i with
    |zero=>exact .inl h2
    |succ i=>exact .inr ⟨i,by simpa using h1,h2⟩
def qgg(names:List Str)(gs:List Gr)(l:List En):Bool:=jK (λs=>gL (ofE names gs l (s:Int))) names.length
theorem qcI{a:En}{r:List En}(h:gL (a::r)=false):gL r=false:=by
 cases r with
 |nil=>rfl
 |cons b r=>rw[gL,Bool.or_eq_false_iff]at h;exact h.2
theorem qnj{L:List En}(hs:L.Pairwise λa b=>qgk b a=false)(hc:gL L=false):L.Pairwise λa b=>qgk a b=true:=by
 induction L with
 |nil=>exact List.Pairwise.nil
 |cons a r ih=>
  obtain⟨h1,h2⟩:=List.pairwise_cons.1 hs;have h3:=ih h2 (qcI hc);refine List.pairwise_cons.2 ⟨?_,h3⟩;cases r with
  |nil=>intro z hz;cases hz
  |cons b r=>
   have hab:qgk a b=true:=by
    rw[gL,Bool.or_eq_false_iff]at hc;have h5:=hc.1;unfold qbZ at h5;rw[Bool.or_eq_false_iff,Bool.and_eq_false_imp,decide_eq_false_iff_not,decide_eq_true_iff,decide_eq_false_iff_not]at h5;have h4:=h1 b (by simp);rw[qaK]at h4;rw[U7];obtain⟨h5,h6⟩:=h5
    by_cases e:a.frm=b.frm
    ·have:=h6 e;omega
    ·omega
   intro z hz;rcases List.mem_cons.1 hz with rfl|hz
   ·exact hab
   ·have h6:=(List.pairwise_cons.1 h3).1 z hz;rw[U7]at*;omega
theorem qoZ{L:List En}(hc:gL L=false){i:Nat}(hi:i+1<L.length):(L.getD i default).to<=(L.getD (i+1) default).frm:=by
 cases h:qbZ (L.getD i default) (L.getD (i+1) default)with
 |true=>rw[(qky L).2 ⟨i,hi,h⟩]at hc;cases hc
 |false=>
  unfold qbZ at h;rw[Bool.or_eq_false_iff,decide_eq_false_iff_not]at h;omega
theorem qh6(names:List Str)(gs:List Gr)(l:List En)(src:Int):(ofE names gs l src).Pairwise λa b=>qgk b a=false:=List.Pairwise.filter _ (qfW l)
theorem UP{names:List Str}{gs:List Gr}{l:List En}(h:qgg names gs l=false){s:Nat}(hs:s<names.length):gL (ofE names gs l (s:Int))=false:=
 qu.1 h s hs
structure qvT (names:List Str) (gs:List Gr) (t:List Str) (l:List En):Prop where
 sg:sgE names gs=0
 n:l.length<=4096
 ck: ∀e∈l,qBW names gs t e=0
 cl:qgg names gs l=false
structure qBy (names:List Str) (gs:List Gr) (t:List Str) (e:En):Prop where
 sg:sgE names gs=0
 tn:t.length<=4096
 tw:qn9 t=0
 lay:0<=e.layer∧e.layer<16
 rng:0<=e.frm∧e.frm<=e.to∧e.to<=t.length
 sp:0<e.sup.length->e.pos=true
 ne:e.vars.length≠0
 va: ∀i,i<e.vars.length->qrm t e i=0
 es:qhJ names gs e.sup=0
 ev: ∀i,i<e.vars.length->qhJ names gs (e.vars.getD i default).sigla=0
 tc:(qi9 names gs e e.vars.length).2=false
theorem qkw{names:List Str}{gs:List Gr}{t:List Str}{e:En}:qBW names gs t e=0↔qBy names gs t e:=by
 unfold qBW;constructor
 ·intro h;split at h
  ·cases h
  rename_i h1;split at h
  ·cases h
  rename_i h2;split at h
  ·cases h
  rename_i h3;split at h
  ·cases h
  rename_i h4;split at h
  ·cases h
  rename_i h5;split at h
  ·cases h
  rename_i h6;split at h
  ·rename_i h7;exact absurd h h7
  rename_i h7;split at h
  ·rename_i h8;exact absurd h h8
  rename_i h8;split at h
  ·rename_i h9;exact absurd h h9
  rename_i h9;split at h
  ·cases h
  rename_i h10;unfold qv4 at h4;refine⟨Classical.not_not.1 h1,om,Classical.not_not.1 h3,om,om,λh=> ?_,h6,jR.1 (Classical.not_not.1 h7),Classical.not_not.1 h8,jR.1 (Classical.not_not.1 h9),?_⟩
  ·cases hp:e.pos with
   |true=>rfl
   |false=>exact absurd ⟨h,hp⟩ h5
  ·rw[qef]at h10;simpa using h10
 ·rintro⟨h1,h2,h3,h4,h5,h6,h7,h8,h9,h10,h11⟩;have hr: ¬qv4 t e:=by unfold qv4;omega
  rw[ine (λhc=>hc h1),ine om,ine (λhc=>hc h3),ine hr,ine (by rintro⟨a,b⟩;rw[h6 a]at b;cases b),ine h7,ine (λhc=>hc (kK (f:=qrm t e) h8)),ine (λhc=>hc h9),
   ine (λhc=>hc (kK (f:=λi=>qhJ names gs (e.vars.getD i default).sigla) h10)),ine (by rw[qef,h11];simp)]
section
variable {k v w : Nat} {h : we} {o o' : AObj} {ty : TypeId} {cs : wg}
theorem cellsOf_setm(hk:k<h.length):cellsOf (qn k h (.mem w ty cs)) k v=if w=v then some cs else none:=by
 have:=kU (l:= []) (v:=v) (w:=w) (ty:=ty) (cs:=cs) hk
 simpa using this
theorem setO_setm:qn k (qn k h o) o'=qn k h o':=kR
end
attribute [go_sem] cellsOf_setm setO_setm
theorem qpR{k v:Nat}{h:we}{ty:TypeId}{cs:wg}(hl: ∀n,∀c∈cs,qS n c=true): ∀o∈qn k h (.mem v ty cs),o∈h∨lowO h.length o:=by
 intro o ho;rcases jc ho with h1|rfl
 ·exact .inl h1
 ·exact .inr (λc hc=>hl _ c hc)
end RC
end
section
open Go Go.Proofs AF HY LN
namespace AF
theorem Wk.cells{t:wg}{h:we}{j v:Nat}{ty:TypeId}{cs cs':wg}(hj:qq j h=some (.mem v ty cs))(hc:qaI cs cs'):Wk t h t (qn j h (.mem v ty cs')):=by
 intro N w σ a H;have hjl:j<σ.length:=by rw[H.hr.len];exact zE hj
 have ho:=zH hjl;obtain⟨m1,m2,b,arr,m3,m4,m5,m6,m7,m8⟩:=H.hr.obj j _ _ hj ho;have q:=H.hr.recell (cs':=cs') hj ho m3 m4 m5 (by rw[hc.length];exact m6) (λi x hi hx=>m7 i x (by rw[<-hc.length];exact hi) hx) (λi c x hi hx=>by
  obtain⟨c0,h1,h2⟩:=hc.get i c hi
  exact h2 _ _ _ (m8 i c0 x h1 hx))
 exact⟨σ,⟨q,H.sz,H.tm,H.df⟩,Ext.refl _ _⟩
end AF
namespace RC
end RC
end
section
open Go Go.Proofs AF HY LN
namespace RC
def stV(names:List Str)(gs:List Gr)(e:En):AV:= .sl e.vars.length λj=> [qP (qco names gs (e.vars.getD j default).sigla)]
def msV(names:List Str)(gs:List Gr)(L:List En):AV:= .sl L.length λi=> [stV names gs (L.getD i default)]
theorem qpp(names:List Str)(gs:List Gr)(e:En):(stV names gs e).flag=true:=rfl
theorem qnp(names:List Str)(gs:List Gr)(e:En):(stV names gs e).strip=stV names gs e:=rfl
theorem qpn(names:List Str)(gs:List Gr)(L:List En):(msV names gs L).flag=true:=rfl
theorem qnn(names:List Str)(gs:List Gr)(L:List En):(msV names gs L).strip=msV names gs L:=rfl
theorem qtU{fz:Nat->Bool}{h:we}{n:Nat}(names:List Str)(gs:List Gr)(e:En):frz fz h (n+1) (stV names gs e)=stV names gs e:=rfl
theorem qu1{fz:Nat->Bool}{h:we}{n:Nat}(names:List Str)(gs:List Gr)(e:En):rei fz h (n+1) (stV names gs e)=stV names gs e:=rfl
theorem qtT{fz:Nat->Bool}{h:we}{n:Nat}(names:List Str)(gs:List Gr)(L:List En):frz fz h (n+1) (msV names gs L)=msV names gs L:=rfl
theorem qu0{fz:Nat->Bool}{h:we}{n:Nat}(names:List Str)(gs:List Gr)(L:List En):rei fz h (n+1) (msV names gs L)=msV names gs L:=rfl
attribute [go_sem] qpp qnp qpn qnn qtU qu1 qtT qu0
end RC
end
section
open Go Go.Proofs AF HY LN
namespace AF
theorem qY{P:Program}{f:FuncId}{cap:wg}{xs:List wg}(hf:qi8 P f cap xs){ps:List Nat}{b:Nat}{x y:C}{Q:Ex->Nx}{ts:wg}{h:we}(hps: ∀a∈xs,a.length=ps.length)
  (S:Nat->we->Prop) (E:Ex->we->Prop) (hS: ∀i hh,S i hh->LowI h hh) (hE: ∀s hh,E s hh->LowI h hh)
  (start:S 0 h) (hts: ∀c∈ts,qS (h.length+1) c=true)
  (body: ∀i hh tl L TS,(hi:i<xs.length)->S i hh->hh.length=h.length-> ∀(K:Nx) (K2:Ex->Nx),
   (∀t2 X hm,X=hm++ .lp .ready TS L::tl->hm.length=h.length->qW P b y K2 t2 (hm++ .lp .busy TS L::tl)->K t2 X)->
   (∀t3 X hh',X=hh'++ .lp .busy TS L::tl->hh'.length=h.length->S (i+1) hh'->K2 .normal t3 X)->
   (∀t3 X hh',X=hh'++ .lp .busy TS L::tl->hh'.length=h.length->E .ret hh'->K2 .ret t3 X)->
   (∀id t3 X hh',X=hh'++ .lp .busy TS L::tl->hh'.length=h.length->E (.exit id) hh'->K2 (.exit id) t3 X)->
   qW P b x (Ex.andThen K (λ_ _ _=>False)) (jV ts ps (xs[i])) (hh++ .lp .ready TS L::tl))
  (done: ∀hh,S xs.length hh->Q .normal ts hh) (doneE: ∀e hh,E e hh->match e with
   | .normal=>False
   |e=>Q e ts hh):
  qeS P (.fn (.func f) [] cap) ps (qW P b x) (qW P b y) Q ts h:=by
 intro L hy;show zU _ _ _ _ _;have key:=hf h ts L S (λs hh=>match s with
  | .ret=>E .ret hh
  | .exit id=>E (.exit id) hh
  |_=>False) hS
  (by
   intro s hh hs;cases s with
   |ret=>exact hE _ _ hs
   |exit id=>exact hE _ _ hs
   |ready=>exact hs.elim
   |busy=>exact hs.elim)
  (by
   intro i hh tl hi i4;have hlen:=(hS _ _ i4).1;refine hy h.length ts _ _ _ (jW hlen) (hps _ (List.getElem_mem hi)) ?_;refine UH (Q:=Ex.andThen (λt2 h2=> ∃hm,hm.length=h.length∧h2=hm++ .lp .ready ts L::tl∧
    qW P b y (λe t3 h3=> ∃hh',h3=hh'++ .lp .busy ts L::tl∧hh'.length=h.length∧match e with
     | .normal=>S (i+1) hh'
     | .ret=>E .ret hh'
     | .exit id=>E (.exit id) hh') t2 (hm++ .lp .busy ts L::tl)) (λ_ _ _=>False)) ?_
    (body i hh tl L ts hi i4 hlen _ _ (λt2 X hm e1 e2 e3=>⟨hm,e2,e1,e3⟩) (λt3 X hh' e1 e2 e3=>⟨hh',e1,e2,e3⟩) (λt3 X hh' e1 e2 e3=>⟨hh',e1,e2,e3⟩) (λid t3 X hh' e1 e2 e3=>⟨hh',e1,e2,e3⟩))
   intro e t2 h2 hq;cases e with
   |ret=>exact hq.elim
   |exit id=>exact hq.elim
   |normal=>
    obtain⟨hm,hml,rfl,h3⟩:=hq;refine⟨rfl,⟨ts,jW hml⟩,λts' hts'=> ?_⟩;rw[jW hml]at hts';cases hts';rw[qbn hml];refine UH ?_ h3;rintro e t3 h3' ⟨hh',rfl,g1,g2⟩;refine⟨ts,jW g1,?_⟩;cases e with
    |normal=>exact⟨hh',.inl ⟨rfl,g2,qbn g1⟩⟩
    |ret=>exact⟨hh',.inr ⟨.ret,rfl,g2,qbn g1⟩⟩
    |exit id=>exact⟨hh',.inr ⟨.exit id,rfl,g2,qbn g1⟩⟩)
  start hts
 refine key.le (qaI.refl _) ?_;rintro v h' ⟨hh,⟨g1,rfl⟩|⟨s,g1,rfl⟩⟩
 ·have hl:=hS _ _ g1;exact⟨v,qi,hh,.ready,ts,L,rfl,hl.1,λo ho=>(hl.2 o ho).imp (λh=>h) And.left,done hh g1⟩
 ·cases s with
  |ready=>exact g1.elim
  |busy=>exact g1.elim
  |ret=>
   have hl:=hE _ _ g1;exact⟨v,qi,hh,.ret,ts,L,rfl,hl.1,λo ho=>(hl.2 o ho).imp (λh=>h) And.left,doneE _ _ g1⟩
  |exit id=>
   have hl:=hE _ _ g1;exact⟨v,qi,hh,.exit id,ts,L,rfl,hl.1,λo ho=>(hl.2 o ho).imp (λh=>h) And.left,doneE _ _ g1⟩
end AF
namespace RC
theorem qbI(n:Nat)(L:List Str):qS n (strs L)=true:=rfl
end RC
end
section
open Go Go.Proofs AF HY LN
namespace AF
theorem Wk.ownNil{t:wg}{h:we}{j v i k ve sz:Nat}{ty:TypeId}{cs:wg}(hj:qq j h=some (.mem v ty cs))(hi:cs[i]? =some .nl)(hk:qq k h=some (.emp ve)):
  Wk t h t (qn j h (.mem v ty (cs.set i (.osl k ve sz 0 0)))):=by
 intro N w σ a H;have hjl:j<σ.length:=by rw[H.hr.len];exact zE hj
 have hkl:k<σ.length:=by rw[H.hr.len];exact zE hk
 have ho:=zH hjl;have hok:=zH hkl;obtain⟨e1,e2⟩:=H.hr.obj k _ _ hk hok;obtain⟨m1,m2,b,arr,m3,m4,m5,m6,m7,m8⟩:=H.hr.obj j _ _ hj ho;have q:=H.hr.recell (cs':=cs.set i (.osl k ve sz 0 0)) hj ho m3 m4 m5 (by simpa using m6) (λn x hn hx=>m7 n x (by simpa using hn) hx) (λn c x hn hx=>by
  rw[List.getElem?_set]at hn;split at hn
  ·rename_i e;subst e;split at hn
   ·cases hn;have hv:=m8 i _ x hi hx;cases hv with
    |imm hv=>
     cases hv;exact .osl _ hok ⟨none,0,0,rfl⟩ (Nat.le_of_eq e1.symm) (λ_=> .inl ⟨e2,rfl,rfl,rfl⟩)
   ·cases hn
  ·exact m8 n c x hn hx)
 exact⟨σ,⟨q,H.sz,H.tm,H.df⟩,Ext.refl _ _⟩
end AF
namespace RC
structure qD3 (t:List Str) (L:List En):Prop where
 rg: ∀i,i<L.length->0<=(L.getD i default).frm∧(L.getD i default).frm<=(L.getD i default).to∧(L.getD i default).to<=t.length
 nx: ∀i,i+1<L.length->(L.getD i default).to<=(L.getD (i+1) default).frm
theorem quv{names:List Str}{gs:List Gr}{l:List En}{src:Int}{e:En}(h:e∈ofE names gs l src):e∈l:=(qe3 l).subset (List.mem_filter.1 h).1
theorem qlj{L:List En}{i:Nat}(hi:i<L.length):L.getD i default∈L:=by
 rw[gdqA,zH hi];exact List.getElem_mem hi
theorem qvT.tx{names:List Str}{gs:List Gr}{t:List Str}{l:List En}(h:qvT names gs t l){s:Nat}(hs:s<names.length):qD3 t (ofE names gs l (s:Int)):=
 ⟨λi hi=>(qkw.1 (h.ck _ (quv (qlj hi)))).rng,λi hi=>qoZ (UP h.cl hs) hi⟩
end RC
end
section
open Go Go.Proofs AF HY LN
namespace RC
def qvm(L:List (List Str)):AV:= .sl L.length λi=> [strs (L.getD i [])]
theorem qhQ(L:List (List Str)):(qvm L).flag=true:=rfl
theorem qf1(L:List (List Str)):(qvm L).strip=qvm L:=rfl
attribute [go_sem] qhQ qf1
theorem cV(L:List Str):(jH L).length=L.length:=by simp[jH]
theorem qqY(L M:List Str):jH (L++M)=jH L++jH M:=by simp[jH]
theorem qqZ{L:List Str}:jH L= []↔L= []:=by simp[jH]
theorem qq1{L:List Str}{n:Nat}(g:AV->AV)(hg: ∀s,g (.str s)= .str s)(hn:n=L.length):VLe (.sl n λi=>(((jH L).drop i).take 1).map g) (strs L):=by
 subst hn;refine VLe.sl_eq rfl (λi hi=> ?_);unfold jH;rw[<-List.map_drop,List.drop_eq_getElem_cons hi,List.map_cons,List.take_succ_cons,List.take_zero,List.map_cons,List.map_nil,hg,gdqA,zH hi];rfl
theorem qpu{α β:Type}(f:α->β)(L:List α):L.flatMap (λi=> [f i])=L.map f:=by
 induction L with
 |nil=>rfl
 |cons a L ih=>rw[List.flatMap_cons,ih];rfl
theorem qnd(h:we){t:List Str}{a b:Nat}(h1:a<=b)(h2:b<=t.length):qj h (.sl (b-a) λi=> [.str (t.getD (a+i) [])])=some (b-a,jH (qoi t a b)):=by
 show some (b-a,(List.range (b-a)).flatMap λi=> [AV.str (t.getD (a+i) [])])=_;rw[qpu (λi=>AV.str (t.getD (a+i) []))];congr 2;unfold jH qoi;apply List.ext_getElem
 ·simp;omega
 ·intro i g1 g2;have hi:i<b-a:=by simpa using g1
  have hl:a+i<t.length:=by omega
  simp[gdqA,hl]
theorem qqX(h:we)(t:List Str):qj h (strs t)=some (t.length,jH t):=by
 have:=qnd h (t:=t) (a:=0) (b:=t.length) (nzl _) (nlr _)
 simp only[Nat.sub_zero,Nat.zero_add]at this;have e:qoi t 0 t.length=t:=by simp[qoi]
 rw[e]at this;exact this
theorem U6{p:Nat->Bool}{i:Nat}(h: ∀j,j<i->p j=false)(hp:p i=false): ∀j,j<i+1->p j=false:=by
 intro j hj
 by_cases e:j=i
 ·subst e;exact hp
 ·exact h j om
end RC
end
section
open Go Go.Proofs AF
end
section
open Go Go.Proofs AF HY LN
namespace AF
theorem kf{P:Program}{f:FuncId}{first cap args:wg}{d:Option Nat}{nx:Nx}{t:wg}{h h':we}{r:AV}(hc:ACalls P f (first++args++cap) h r h')(hn:nx (qT t d r) h'):qab P (.fn (.func f) first cap::args) d nx t h:=⟨_,hc.toQ,by rintro _ _ ⟨rfl,rfl⟩;exact hn⟩
theorem jl{v:Nat}{ty:TypeId}{cs:wg}{n:Nat}(h: ∀c∈cs,qS n c=true):lowO n (zw v ty cs):=by
 unfold zw;split
 ·trivial
 ·exact h
theorem qX{v w:Nat}{ty:TypeId}{cs:wg}:qG (some (zw v ty cs)) w=(v==w):=by unfold zw;split<;>rfl
theorem qic{v:Nat}{ty:TypeId}{cs:wg}:(qr (some (zw v ty cs)) v).getD []=cs:=by
 unfold zw;split
 ·rename_i e;rw[e];rfl
 ·rw[qk,ipo rfl];rfl
end AF
namespace RC
theorem qiq(L:List Str):(strs L).solid=true:=rfl
theorem qhA(L:List Str):(strs L).cells= [strs L]:=rfl
theorem qfl{k v z p n:Nat}(L:List Str):qa9 (.osl k v z p n) (strs L)=true:=rfl
attribute [go_sem] qiq qhA qfl
theorem qg5(L:List Str)(n:Nat): ∀c∈jH L,qS n c=true:=by
 intro c hc;unfold jH at hc;obtain⟨x,_,rfl⟩:=List.mem_map.1 hc;rfl
theorem qdP{v:Nat}{L:List Str}{g:AV->AV}{n:Nat}(hg: ∀s,g (.str s)= .str s)(hn:n=L.length):VLe (qg0 (some (zw v 9 (jH L))) v 1 0 n g) (strs L):=by
 subst hn
 by_cases h:L= []
 ·subst h;show VLe (qg0 (some (.emp v)) v 1 0 0 g) _;rw[slOf_emp,ipo rfl];exact zB
 ·have e0:zw v 9 (jH L)= .mem v 9 (jH L):=cb (λe=>h (qqZ.1 e));rw[e0,slOf_mem,ipo ⟨rfl,by rw[cV];omega⟩];simp only[Nat.zero_add,Nat.mul_one];exact qq1 g hg rfl
end RC
end
section
open Go Go.Proofs AF
end
section
open Go Go.Proofs AF HY LN
namespace AF
end AF
namespace RC
theorem qio(L:List Gr):(qoe L).solid=true:=rfl
theorem qhy(L:List Gr):(qoe L).cells= [qoe L]:=rfl
theorem qin(L:List En):(qod L).solid=true:=rfl
theorem qhx(L:List En):(qod L).cells= [qod L]:=rfl
theorem qm6(names:List Str)(gs:List Gr)(e:En):(stV names gs e).solid=true:=rfl
theorem qkr(names:List Str)(gs:List Gr)(e:En):(stV names gs e).cells= [stV names gs e]:=rfl
theorem qm4(names:List Str)(gs:List Gr)(L:List En):(msV names gs L).solid=true:=rfl
theorem qkp(names:List Str)(gs:List Gr)(L:List En):(msV names gs L).cells= [msV names gs L]:=rfl
theorem qfQ(L:List Int):(qP L).solid=true:=rfl
theorem qfq(L:List Int):(qP L).cells= [qP L]:=rfl
attribute [go_sem] qio qhy qin qhx qm6 qkr qm4 qkp qfQ qfq
end RC
end
section
open Go Go.Proofs AF HY LN
namespace RC
section
variable (names : List Str) (gs : List Gr) (t : List Str) (l : List En) (src : Int) (h : we)
theorem qqO{v n:Nat}{L:List Int}{g:AV->AV}(hg: ∀s,g (.int .i64 s)= .int .i64 s)(hn:n=L.length):VLe (qg0 (some (zw v 3 (qU L))) v 1 0 n g) (qP L):=by
 subst hn
 by_cases h:L= []
 ·subst h;show VLe (qg0 (some (.emp v)) v 1 0 0 g) _;rw[slOf_emp,ipo rfl];exact zB
 ·have e0:zw v 3 (qU L)= .mem v 3 (qU L):=cb (λe=>h (qlv.1 e));rw[e0,slOf_mem,ipo ⟨rfl,by rw[jL];omega⟩];simp only[Nat.zero_add,Nat.mul_one];exact qlw g hg rfl
end
section
variable (names : List Str) (gs : List Gr) (t : List Str) (l : List En) (src : Int) (h : we)
end
end RC
end
section
open Go Go.Proofs AF HY LN
namespace RC
end RC
namespace RC
end RC
end
section
open Go Go.Proofs AF HY LN
namespace AF
structure qvU (E:AV) (n:Nat) (cs:wg):Prop where
 fl:E.flag=true
 st:E.strip=E
 vl: ∀g,valL g .len [E]= .int .i64 n
 ok: ∀g,okL g .len [E]=True
 sc: ∀g,qj g E=some (n,cs)
 ap: ∀k v z p m,qa9 (.osl k v z p m) E=true
theorem qvU.sl(n:Nat)(f:Nat->wg):qvU (.sl n f) n ((List.range n).flatMap f):=⟨rfl,rfl,λ_=>rfl,λ_=>eqt trivial,λ_=>rfl,λ_ _ _ _ _=>rfl⟩
end AF
namespace RC
theorem qvU.strs(L:List Str):qvU (strs L) L.length (jH L):=⟨rfl,rfl,λ_=>rfl,λ_=>eqt trivial,λg=>qqX g L,λ_ _ _ _ _=>rfl⟩
theorem qvU.sub{t:List Str}{a b:Nat}(h1:a<=b)(h2:b<=t.length):qvU (.sl (b-a) λi=> [.str (t.getD (a+i) [])]) (qoi t a b).length (jH (qoi t a b)):=by
 rw[qq9 h1 h2];exact⟨rfl,rfl,λ_=>rfl,λ_=>eqt trivial,λg=>qnd g h1 h2,λ_ _ _ _ _=>rfl⟩
end RC
end
section
open Go Go.Proofs AF HY LN
namespace RC
def qiP(ms:List Nat):AV:= .sl ms.length λi=> [.int .u64 ((ms.getD i 0:Nat):Int)]
theorem qhR(L:List Nat):(qiP L).flag=true:=rfl
theorem qf2(L:List Nat):(qiP L).strip=qiP L:=rfl
theorem qfT(L:List Nat):(qiP L).solid=true:=rfl
theorem qft(L:List Nat):(qiP L).cells= [qiP L]:=rfl
attribute [go_sem] qhR qf2 qfT qft
end RC
end
section
open Go Go.Proofs AF
end
section
open Go Go.Proofs AF HY LN
namespace RC
end RC
end
