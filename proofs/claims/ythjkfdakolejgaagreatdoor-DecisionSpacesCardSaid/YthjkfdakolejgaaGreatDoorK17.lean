import Derived.Test.YthjkfdakolejgaaGreatDoorK3
import Derived.Test.YthjkfdakolejgaaGreatDoorK5
import Derived.Test.YthjkfdakolejgaaGreatDoorK8
import Derived.Test.YthjkfdakolejgaaGreatDoorProg
import Derived.Test.YthjkfdakolejgaaGreatDoorK16
import Derived.Test.YthjkfdakolejgaaGreatDoorK14
import Derived.Test.YthjkfdakolejgaaGreatDoorK15
import Derived.Test.YthjkfdakolejgaaGreatDoorK9
import Derived.Test.YthjkfdakolejgaaGreatDoorK12
import Derived.Test.YthjkfdakolejgaaGreatDoorRows
import Derived.LaidLaws
import Derived.OpenShut
set_option linter.all false
set_option linter.unusedSimpArgs false
set_option linter.unusedVariables false
set_option linter.unusedSectionVars false
set_option maxHeartbeats 128000000
set_option maxRecDepth 100000
section
open Go Go.Proofs AF
def qt5:List Nat:= [25]
def qDs:C:=
 ((C.ops [MC 0 (.bool false)]).seq ((C.ops [ON 10 (.call 92 true) [],O1 11 (.call 31 true) 10,MV 9 11,O1 12 (.ext 0) 9,O1 13 (.ext 1) 9,MV 1 12,MV 2 13]).seq ((C.ops [ON 15
 (.call 92 true) [],MV 16 1,ON 17 (.call 25 false) [.t 15,.t 16,.c .nl,.c (i6 0)],MV 14 17,O1 18 (.ext 0) 14,O1 19 (.ext 1) 14,MV 3 18,MV 4 19]).seq ((C.ops [ON 21 (.call
 92 true) [],MV 22 1,⟨some 23,none,.build [i6 0,.str [],i6 0,.str []] [(0,1),(1,1),(2,1)],[.c (i6 3),.c (.str [65]),.c (i6 1)]⟩,⟨some 24,none,.bslc 0 4 1 43 [i6 0,
 .str [],i6 0,.str []] [(0,4)],[.t 23]⟩,ON 25 (.call 25 false) [.t 21,.t 22,.t 24,.c (i6 0)],MV 20 25,O1 26 (.ext 0) 20,O1 27 (.ext 1) 20,MV 5 26,MV 6 27]).seq ((C.ops
 [ON 29 (.call 92 true) [],MV 30 1,⟨some 31,none,.build [i6 0,.str [],i6 0,.str []] [(0,1),(1,1),(2,1),(3,1)],[.c (i6 2),.c (.str [65]),.c (i6 1),.c (.str [118,
 101,114,101,44,32,101,116])]⟩,⟨some 32,none,.bslc 1 4 1 43 [i6 0,.str [],i6 0,.str []] [(0,4)],[.t 31]⟩,ON 33 (.call 25 false) [.t 29,.t 30,.t 32,.c (i6 0)],MV
 28 33,O1 34 (.ext 0) 28,O1 35 (.ext 1) 28,MV 7 34,MV 8 35]).seq (((C.ops [MV 36 2,MV 37 4,MV 38 6,MV 39 8,ON 40 (.mm true) [.t 36,.t 37,.t 38,.t 39],BC 41 .neq 40 (i6
 0),MV 42 41,MG 43 42 false 7,P1 44 42 false .len 43,PC 45 42 false (.bin .neq) 44 (i6 5),PT 46 42 45]).seq (C.cond (.t 46) ((C.ops [MC 0 (.bool false)]).seq C.ret)
 C.skip)).seq ((C.ops [MV 47 3,O1 48 (.call 37 true) 47,⟨some 49,none,.bslc 2 1 3 9 [.str []] [(0,1),(1,1),(2,1)],[.c (.str [100,101,117,115]),.c (.str [101,115,
 116]),.c (.str [98,111,110,117,115])]⟩,O2 50 (.call 36 true) 48 49,MV 51 50,MG 52 51 true 5,P1 53 51 true (.call 37 true) 52,⟨some 54,some (51,true),.bslc 3 1 2 9
 [.str []] [(0,1),(1,1)],[.c (.str [100,101,117,115]),.c (.str [98,111,110,117,115])]⟩,P2 55 51 true (.call 36 true) 53 54,PF 56 51 55,MV 57 56,MG 58 57 true 7,P1
 59 57 true (.call 37 true) 58,⟨some 60,some (57,true),.bslc 4 1 5 9 [.str []] [(0,1),(1,1),(2,1),(3,1),(4,1)],[.c (.str [100,101,117,115]),.c (.str [118,101,
 114,101]),.c (.str [44]),.c (.str [101,116]),.c (.str [98,111,110,117,115])]⟩,P2 61 57 true (.call 36 true) 59 60,PF 62 57 61,MV 63 62,MG 64 63 true 7,PC 65 63 true
 (.idxA 7) 64 (i6 2),P1 66 63 true (.fldA 4) 65,P1 67 63 true (.load none) 66,PF 68 63 67,MV 69 68,MG 70 69 true 7,PC 71 69 true (.idxA 7) 70 (i6 3),P1 72 69 true (.fldA 4)
 71,P1 73 69 true (.load none) 72,P1 74 69 true (.un UnOp.not) 73,PF 75 69 74,MV 0 75]).seq
 C.ret)))))))
theorem qCe:qM Tryz.prog 40 76 5 [RV.tmp 0] qDs:=fi Tryz.f40 [24,32,49,54,60] qt5 []
end
section
open Go Go.Proofs AF HY LN
namespace RC
theorem qEo(a:Cq)(h:List AObj)(hb:CqB a):ACalls Tryz.prog 46 [.agg (cqC a)] h (.bool (qtU a)) h:=by
 have c1:=fun h=>qEk a.x h hb.x
 have c2:=fun h=>qEl a.l h hb.l
 have c3:=fun h=>qCv a.d h hb.d
 unfold qtU;cases e1:qtS a.x with
 |true=>
  rw[e1]at c1;unfold coC at c1;refine acO qpB ?_;simp (disch:=omega) only[qxp,cqC,go_sem]
  repeat' first
   |(refine qj ( .bool false) ?_;simp (disch:=omega) only[go_sem])
   |(refine cA (c1 _) flk ?_;simp (disch:=omega) only[go_sem])
   |(apply qb;exact rvk;simp only[go_sem];exact qi)
 |false=>
  rw[e1]at c1;unfold coC at c1;cases e2:qtT a.l with
  |true=>
   rw[e2]at c2;refine acO qpB ?_;simp (disch:=omega) only[qxp,cqC,go_sem]
   repeat' first
    |(refine qj ( .bool false) ?_;simp (disch:=omega) only[go_sem])
    |((first|refine cA (c1 _) ?_ ?_|refine cG (fun e=>c2 _) ?_ ?_);exact flk;simp (disch:=omega) only[go_sem])
    |(apply qb;exact rvk;simp only[go_sem];exact qi)
  |false=>
   rw[e2]at c2;cases e3:qtV a.d with
   |true=>
    rw[e3]at c3;refine acO qpB ?_;simp (disch:=omega) only[qxp,cqC,go_sem]
    repeat' first
     |((first|refine cA (c1 _) ?_ ?_|refine cG (fun e=>c2 _) ?_ ?_|refine cG (fun e=>c3 _) ?_ ?_);exact flk;simp (disch:=omega) only[go_sem])
     |(apply qb;exact rvk;simp only[go_sem];exact qi)
   |false=>
    rw[e3]at c3;refine acO qpB ?_;simp (disch:=omega) only[qxp,cqC,go_sem]
    repeat' first
     |((first|refine cA (c1 _) ?_ ?_|refine cG (fun e=>c2 _) ?_ ?_|refine cG (fun e=>c3 _) ?_ ?_);exact flk;simp (disch:=omega) only[go_sem])
     |(apply qb;exact rvk;simp only[go_sem];exact qi)
def mdB(a:Cq):Bool:= !qtU a&&decide (esE a.x a.l a.d a.lead=0)
def mdR(a:Cq):List Wd:=if qtU a=true then [] else esR a.x a.l a.d a.lead
theorem qB4{x:Co}{l:List Un}{d:List Dc}{s:Int}(h:coE x≠0):esE x l d s≠0:=by
 have:vaE x l=1:=by unfold vaE;rw[ipo h]
 unfold esE;rw[this,ipo (by decide)];decide
theorem esA(a:Cq)(h:List AObj)(z:CqS a)(hp:kY SG h)(hg:zR h frmN frmC):ACalls Tryz.prog 25 [.agg (coC a.x),jc a.l,qao a.d,.int .i64 a.lead] h (.tup [kE (esR a.x a.l a.d a.lead),.int .i64 (esE a.x a.l a.d a.lead)]) h:=
 qBj a.x a.l a.d a.lead h z.x z.l hp hg (by have:=z.d;omega) (fun o ho=>by have:=z.t o ho;omega) (z.lim _)
theorem qCD(a:Cq)(h:List AObj)(hb:CqB a)(hp:kY SG h)(hg:zR h frmN frmC):ACalls Tryz.prog 39 [.agg (cqC a)] h (.tup [kE (mdR a),.bool (mdB a)]) h:=by
 have c1:=fun h=>qEo a h hb
 unfold mdB mdR;cases e1:qtU a with
 |true=>
  rw[e1]at c1;refine acO qpA ?_;simp (disch:=omega) only[qxo,cqC,go_sem]
  repeat' first
   |(refine qj ( .int .i64 0) ?_;simp (disch:=omega) only[go_sem])
   |(refine cA (c1 _) flk ?_;simp (disch:=omega) only[go_sem])
   |(apply qb;exact rvk;simp only[go_sem])
  exact VLe.tup ⟨ze,qi,trivial⟩
 |false=>
  rw[e1]at c1;have z:=qr2 e1;have c2:=fun l'=>coR a.x (h++l') z.x (hp.app l')
  have c3:=fun l'=>esA a (h++l') z (hp.app l') hg.app
  rw[ine (by simp)]
  by_cases e2:coE a.x=0
  ·rw[e2]at c2;obtain⟨E,hE⟩: ∃E,E=esE a.x a.l a.d a.lead:=⟨_,rfl⟩
   simp only[←hE]at c3 ⊢;unfold cqC at c1;unfold coC at c2 c3
   by_cases e3:E=0
   ·have k3:(E=0)=True:=eqt e3;rw[dqt e3];refine acO qpA ?_;simp (disch:=omega) only[qxo,cqC,go_sem]
    repeat' first
     |((first|refine cA (c1 _) ?_ ?_|refine cG (fun e=>c2 _) ?_ ?_|refine cA (c3 _) ?_ ?_);exact flk;simp (disch:=omega) only[k3,go_sem])
     |(apply qb;exact rvk;simp only[go_sem];exact qi)
     |with_reducible apply aiA
    all_goals try exact clz
   ·have k3:(E=0)=False:=eqf e3;rw[dqf e3];refine acO qpA ?_;simp (disch:=omega) only[qxo,cqC,go_sem]
    repeat' first
     |((first|refine cA (c1 _) ?_ ?_|refine cG (fun e=>c2 _) ?_ ?_|refine cA (c3 _) ?_ ?_);exact flk;simp (disch:=omega) only[k3,go_sem])
     |(apply qb;exact rvk;simp only[go_sem];exact qi)
     |with_reducible apply aiA
    all_goals try exact clz
  ·have k2:(coE a.x=0)=False:=eqf e2;have hn:=qB4 (l:=a.l) (d:=a.d) (s:=a.lead) e2;rw[dqf hn];unfold esR;rw[ine hn];obtain⟨E,hE⟩: ∃E,E=coE a.x:=⟨_,rfl⟩
   simp only[←hE]at c2 k2;unfold cqC at c1;unfold coC at c2;refine acO qpA ?_;simp (disch:=omega) only[qxo,cqC,go_sem]
   repeat' first
    |((first|refine cA (c1 _) ?_ ?_|refine cG (fun e=>c2 _) ?_ ?_);exact flk;simp (disch:=omega) only[k2,go_sem])
    |(apply qb;exact rvk;simp only[go_sem])
   exact VLe.tup ⟨ze,qi,trivial⟩
theorem qCZ(s:Str)(h:List AObj):ACalls Tryz.prog 144 [.str s] h (.agg (tkC (tkS s))) h:=by
 unfold tkS tkC;refine acO qx4 ?_;simp (disch:=omega) only[qwx,go_sem]
 repeat' first
  |(apply qb;exact rvk;simp only[go_sem];exact qi)
theorem qCW(h:List AObj):ACalls Tryz.prog 92 [] h (.agg (coC xCo)) h:=by
 have c1:=fun s h=>qCZ s h
 unfold tkC tkS at c1;refine acO qCn ?_;simp (disch:=omega) only[qDA,go_sem]
 repeat' first
  |((first|refine cA (c1 qct _) ?_ ?_|refine cA (c1 qvX _) ?_ ?_|refine cA (c1 qal _) ?_ ?_);exact flk;simp (disch:=omega) only[go_sem])
  |(apply qb;exact rvk;simp only[go_sem])
 refine VLe.agg ⟨qi,vl2 ⟨ie rfl,trivial⟩ ⟨ie rfl,trivial⟩,vl2 ⟨?a1,trivial⟩ ⟨?a2,trivial⟩,vl3 ⟨?a3,trivial⟩ ⟨?a4,trivial⟩ ⟨?a5,trivial⟩,trivial⟩
 case a1=>simp only[go_sem];exact il3 rfl rfl rfl
 case a2=>simp only[go_sem];exact il2 rfl rfl
 case a3=>simp only[go_sem];exact il2 rfl rfl
 case a4=>simp only[go_sem];exact il2 rfl rfl
 case a5=>simp only[go_sem];exact il2 rfl rfl
def quS:Str:= [118,101,114,101]
def qD1:Dc:=⟨3,[65],1,[]⟩
def qD2:Dc:=⟨2,[65],1,[118,101,114,101,44,32,101,116]⟩
def qA:List Wd:= [⟨qct,0,-1,-1,false,false,[]⟩,⟨qvX,1,0,-1,false,false,[]⟩,⟨qal,2,-1,-1,false,false,[]⟩]
def qB:List Wd:= [⟨qct,0,-1,-1,false,false,[]⟩,⟨qal,2,-1,-1,false,false,[]⟩]
def qC:List Wd:= [⟨qct,0,-1,-1,false,false,[]⟩,⟨quS,1,0,0,false,false,[]⟩,⟨[44],1,0,0,true,false,[]⟩,⟨[101,116],1,0,0,false,false,[]⟩,⟨qal,2,-1,-1,false,false,[]⟩]
theorem q_u:utR xCo=xUn∧utE xCo=0:=by decide+kernel
theorem q_a:esE xCo xUn [] 0=0∧esR xCo xUn [] 0=qA:=by decide+kernel
theorem q_b:esE xCo xUn [qD1] 0=0∧esR xCo xUn [qD1] 0=qB:=by decide+kernel
theorem q_c:esE xCo xUn [qD2] 0=0∧esR xCo xUn [qD2] 0=qC:=by decide+kernel
theorem qBv(h:List AObj)(hp:kY SG h)(hg:zR h frmN frmC):ACalls Tryz.prog 40 [] h (.bool true) h:=by
 have c1:=fun h=>qCW h
 have zs:qdZ xCo:=(qr0 (by decide+kernel)).1;have zu:qjx xUn:=(qr1 (by decide+kernel)).1;have c2:=fun l'=>qC2 xCo (h++l') zs (hp.app l')
 rw[q_u.1,q_u.2]at c2;have hb: ∀d:List Dc,(∀o∈d,o.txt.length≤1000)→vaE xCo xUn=0→(rwA xCo xUn d (0:Int).toNat).length≤1000000000:=fun d ht g=>qm8 (by decide) ht g
 have t1: ∀o∈ [qD1],o.txt.length≤1000:=by decide
 have t2: ∀o∈ [qD2],o.txt.length≤1000:=by decide
 have c3:=fun l'=>(qBj xCo xUn [] 0 (h++l') zs zu (hp.app l') hg.app (by simp) (by simp) (hb [] (by simp))).le (args:= [.agg (coC xCo),jc xUn,.nl,.int .i64 0]) ⟨qi,qi,ze,qi,trivial⟩ (qi)
 have c4:=fun l'=>qBj xCo xUn [qD1] 0 (h++l') zs zu (hp.app l') hg.app (by simp) t1 (hb _ t1)
 have c5:=fun l'=>qBj xCo xUn [qD2] 0 (h++l') zs zu (hp.app l') hg.app (by simp) t2 (hb _ t2)
 rw[q_a.1,q_a.2]at c3;rw[q_b.1,q_b.2]at c4;rw[q_c.1,q_c.2]at c5;have hc0:([h.length]:List Nat).contains h.length=true:=by simp
 have hc1:([h.length+1]:List Nat).contains (h.length+1)=true:=by simp
 unfold coC at c1 c2 c3;refine acO qCe ?_;simp (disch:=omega) only[qDs,go_sem]
 repeat' first
  |((first|refine cA (c1 _) ?_ ?_|refine cA (c2 _) ?_ ?_|refine cA (c3 _) ?_ ?_);exact flk;simp (disch:=omega) only[go_sem])
  |with_reducible apply aiA
 all_goals try exact clz
 refine qy (r:= .tup [kE qB,.int .i64 0]) (h':=h++ [.emp 2,.emp 0,.emp 0,.emp 0,.emp 0]) (ACalls.frzd [h.length] (by simp only[qaH,go_sem]) ?c) (by exact flk) ?_
 case c=>
  simp only[qdn,go_sem];refine ACalls.le (c4 _) ?_ (qi);simp only[go_sem,coC,hc0,if_true];exact⟨qi,qi,VLe.sl_eq rfl (fun i hi=>by
   obtain rfl:i=0:=by omega
   rfl),qi,trivial⟩
 simp (disch:=omega) only[go_sem]
 repeat' first
  |(refine cA (c1 _) flk ?_;simp (disch:=omega) only[go_sem])
  |with_reducible apply aiA
 all_goals try exact clz
 refine qy (r:= .tup [kE qC,.int .i64 0]) (h':=h++ [.emp 2,.emp 2,.emp 0,.emp 0,.emp 0]) (ACalls.frzd [h.length+1] (by simp only[qaH,go_sem]) ?d) (by exact flk) ?_
 case d=>
  simp only[qdn,go_sem];refine ACalls.le (c5 _) ?_ (qi);simp only[go_sem,coC,hc1,if_true];exact⟨qi,qi,VLe.sl_eq rfl (fun i hi=>by
   obtain rfl:i=0:=by omega
   rfl),qi,trivial⟩
 have zm:valP (.mm true) [.int .i64 0,.int .i64 0,.int .i64 0,.int .i64 0]= .int .i64 0:=rfl;have zn:okP (.mm true) [.int .i64 0,.int .i64 0,.int .i64 0,.int .i64 0]=True:=eqt (by simp[okP,qc2]);have zA: ∀g,valL g .len [kE qC]= .int .i64 5:=fun _=>rfl
 have zB: ∀g,okL g .len [kE qC]=True:=fun _=>eqt trivial
 have w1:=fun h=>qvJ qA h (by decide)
 have w2:=fun h=>qvJ qB h (by decide)
 have w3:=fun h=>qvJ qC h (by decide)
 have e1:qnQ qA= [qct,qvX,qal]:=rfl;have e2:qnQ qB= [qct,qal]:=rfl;have e3:qnQ qC= [qct,quS,[44],[101,116],qal]:=rfl;rw[e1]at w1;rw[e2]at w2;rw[e3]at w3;simp (disch:=omega) only[zm,zn,zA,zB,go_sem]
 repeat' first
  |(refine cA (w1 _) flk ?_;simp (disch:=omega) only[go_sem])
  |with_reducible apply aiA
 all_goals try exact clz
 refine cA (qB2 (L:= [qct,qvX,qal]) ?v1 (by decide)) (by exact flk) ?_
 case v1=>
  simp only[List.map,go_sem];exact⟨qi,VLe.sl_eq rfl (fun i hi=>by
   match i,hi with
   |0,_=>rfl
   |1,_=>rfl
   |2,_=>rfl
   |n+3,hi=>exact absurd hi om),trivial⟩
 simp (disch:=omega) only[go_sem]
 repeat' first
  |(refine cG (fun e=>w2 _) flk ?_;simp (disch:=omega) only[go_sem])
 refine cG (fun _=>qB2 (L:= [qct,qal]) ?v2 (by decide)) (fun _=>by exact flk) ?_
 case v2=>
  simp only[List.map,go_sem];exact⟨qi,VLe.sl_eq rfl (fun i hi=>by
   match i,hi with
   |0,_=>rfl
   |1,_=>rfl
   |n+2,hi=>exact absurd hi om),trivial⟩
 simp (disch:=omega) only[go_sem]
 repeat' first
  |(refine cG (fun e=>w3 _) flk ?_;simp (disch:=omega) only[go_sem])
 refine cG (fun _=>qB2 (L:= [qct,quS,[44],[101,116],qal]) ?v3 (by decide)) (fun _=>by exact flk) ?_
 case v3=>
  simp only[List.map,go_sem];exact⟨qi,VLe.sl_eq rfl (fun i hi=>by
   match i,hi with
   |0,_=>rfl
   |1,_=>rfl
   |2,_=>rfl
   |3,_=>rfl
   |4,_=>rfl
   |n+5,hi=>exact absurd hi om),trivial⟩
 have zq:kE qC= .sl 5 fun i=>wdC (qC.getD i default):=rfl
 have g2:qC.getD 2 default=⟨[44],1,0,0,true,false,[]⟩:=rfl;have g3:qC.getD 3 default=⟨[101,116],1,0,0,false,false,[]⟩:=rfl;simp (disch:=omega) only[zq,wdC,go_sem]
 repeat' first
  |(apply qb;exact rvk;simp only[go_sem];exact qi)
  |with_reducible first|intro _|apply aiA
 all_goals try exact clz
theorem qtB{x:Co}{l:List Un}{d:List Dc}{s:Nat}{i:Nat}(hi:i<(rwA x l d s).length)(hj:((bsW (rwA x l d s)).getD i default).joined=true):
  i≠0∧(jl ((bsW (rwA x l d s)).getD (i-1) default).text=true→jl ((bsW (rwA x l d s)).getD i default).text=false∧((bsW (rwA x l d s)).getD i default).text≠ [39]):=by
 rw[qcU hi]at hj ⊢;have hj:(jnB ((rwA x l d s).getD i default).p.t.flags&&(match qmL (rwA x l d s) i with|none=>false|some b=>qvP b ((rwA x l d s).getD i default).p.t.text))=true:=hj;rw[Bool.and_eq_true]at hj;obtain⟨_,hj⟩:=hj;unfold qmL at hj
 by_cases h0:i=0
 ·rw[ipo h0]at hj;cases hj
 ·refine⟨h0,fun hw=> ?_⟩;rw[ine h0]at hj;rw[qcU om]at hw;have hw:jl ((rwA x l d s).getD (i-1) default).p.t.text=true:=hw;have hj:qvP ((rwA x l d s).getD (i-1) default).p.t.text ((rwA x l d s).getD i default).p.t.text=true:=hj;unfold qvP at hj;rw[ipo hw,Bool.and_eq_true,Bool.not_eq_true',Bool.not_eq_true',decide_eq_false_iff_not]at hj;exact hj
theorem qsI{L:List Rw}{i:Nat}(hi:i<L.length):((bsW L).getD i default).unit=(L.getD i default).u:=by rw[qcU hi];rfl
theorem qwh{L:List Rw}{i:Nat}(hi:i<L.length):((bsW L).getD i default).dec=(L.getD i default).d:=by rw[qcU hi];rfl
theorem qrD{L:List Rw}{i:Nat}(hi:i<L.length):((bsW L).getD i default).col=(L.getD i default).p.c:=by rw[qcU hi];rfl
theorem qkw{L:List Rw}{i:Nat}(hi:i<L.length):((bsW L).getD i default).text=(L.getD i default).p.t.text:=by rw[qcU hi];rfl
theorem qfX.esE{x:Co}{l:List Un}{d:List Dc}{s:Nat}(h:qfX x l d s):esE x l d s=0:=by
 have h1:vaE x l=0:=by
  unfold vaE;rw[ine (fun hc=>hc h.ca),ine];unfold rgB;rw[h.us,h.cv];simp
 have h2:qbT x l d=0:=by
  unfold qbT;rw[ine (by have:=h.dl;omega)];exact jL.2 h.pl
 have:=h.sl
 have:=h.ln
 unfold RC.esE;rw[h1,h2,ine (by simp),ine om,ine (by simp),ine (by rw[itn];omega)]
end RC
end
section
open Go Go.Proofs AF
def qt6:List Nat:= []
def c6s:C:=
 ((C.ops [O1 1 (.box 0 75) 0,MC 2 (.bool false)]).seq ((C.ops [O1 10 (.load (some 7)) 1,O1 11 (.call 39 true) 10,MV 9 11,O1 12 (.ext 0) 9,O1 13 (.ext 1) 9,MV 3 12,MV 4
 13]).seq (((C.ops [MV 14 4,O1 15 (.un UnOp.not) 14]).seq (C.cond (.t 15) ((C.ops [ON 16 (.call 40 true) [],MV 2 16]).seq C.ret) C.skip)).seq (((C.ops [MV 17 3,O1 18 .len 17,MC
 19 (i6 0)]).seq (C.block 0 ((C.ops [BI 20 .lss 19 18]).seq ((C.cond (.t 20) C.skip (C.exit 0)).seq ((C.block 1 ((C.ops [MV 21 19,O2 22 (.idxA 7) 17 19,O1 23 (.load (some 7)) 22,
 ⟨some 6,none,.alloc 1 36 [.str [],i6 0,i6 0,i6 0,.bool false,.bool false,.str []],[]⟩,MV 5 21,ST 7 6 23]).seq (((C.ops [O1 24 (.fldA 4) 6,LD 25 24,MV 26 25,MG 27 26
 true 5,PC 28 26 true (.bin .eql) 27 (i6 0),MG 29 26 true 28,MG 30 29 false 3,MG 31 29 false 5,PC 32 29 false (.bin .sub) 31 (i6 1),P2 33 29 false (.idxA 7) 30 32,P1 34 29
 false (.fldA 0) 33,P1 35 29 false (.load none) 34,P1 36 29 false (.call 41 true) 35,MG 37 29 false 36,P1 38 37 true (.fldA 0) 6,P1 39 37 true (.load none) 38,P1 40 37 true
 (.call 41 true) 39,MG 41 37 true 40,P1 42 41 false (.fldA 0) 6,P1 43 41 false (.load none) 42,PC 44 41 false (.bin .eql) 43 (.str [39]),QT 45 37 true 41 44,QF 46 29 false 37
 45,QT 47 26 true 29 46,PF 48 26 47]).seq (C.cond (.t 48) ((C.ops [MC 2 (.bool false)]).seq C.ret) C.skip)).seq (((C.ops [O1 49 (.fldA 1) 6,LD 50 49,BC 51 .lss 50 (i6 0),MV 52
 51,P1 53 52 false (.fldA 1) 6,P1 54 52 false (.load none) 53,P1 55 52 false (.fldA 0) 1,P1 56 52 false (.fldA 3) 55,P1 57 52 false (.load none) 56,P1 58 52 false .len 57,P2
 59 52 false (.bin .geq) 54 58,PT 60 52 59,MV 61 60,MG 62 61 false 5,PC 63 61 false (.bin .gtr) 62 (i6 0),MG 64 61 false 63,P1 65 64 true (.fldA 1) 6,P1 66 64 true (.load
 none) 65,MG 67 64 true 3,MG 68 64 true 5,PC 69 64 true (.bin .sub) 68 (i6 1),P2 70 64 true (.idxA 7) 67 69,P1 71 64 true (.fldA 1) 70,P1 72 64 true (.load none) 71,P2 73 64
 true (.bin .lss) 66 72,QF 74 61 false 64 73,PT 75 61 74,MV 76 75,P1 77 76 false (.fldA 0) 6,P1 78 76 false (.load none) 77,PC 79 76 false (.bin .eql) 78 (.str []),PT 80 76
 79,MV 81 80,P1 82 81 false (.fldA 3) 6,P1 83 81 false (.load none) 82,PC 84 81 false (.bin .lss) 83 (i6 (-1)),PT 85 81 84,MV 86 85,P1 87 86 false (.fldA 3) 6,P1 88 86 false
 (.load none) 87,P1 89 86 false (.fldA 5) 1,P1 90 86 false (.load none) 89,P1 91 86 false .len 90,P2 92 86 false (.bin .geq) 88 91,PT 93 86 92]).seq (C.cond (.t 93) ((C.ops [MC
 2 (.bool false)]).seq C.ret) C.skip)).seq ((C.ops [O1 95 (.fldA 4) 1,LD 96 95,O1 97 (.fldA 1) 6,LD 98 97,O2 99 (.call 42 true) 96 98,MV 94 99,O1 100 (.ext 0) 94,O1 101 (.ext
 1) 94,MV 7 100,MV 8 101]).seq ((C.ops [MV 102 8,BC 103 .neq 102 (i6 0),MV 104 103,MG 105 104 false 7,P1 106 104 false (.fldA 2) 6,P1 107 104 false (.load none) 106,P2 108
 104 false (.bin .neq) 105 107,PT 109 104 108,MV 110 109,MG 111 110 false 7,PC 112 110 false (.bin .lss) 111 (i6 0),MG 113 110 false 112,P1 114 113 true (.fldA 3) 6,P1 115
 113 true (.load none) 114,PC 116 113 true (.bin .geq) 115 (i6 0),QF 117 110 false 113 116,PT 118 110 117]).seq (C.cond (.t 118) ((C.ops [MC 2 (.bool false)]).seq C.ret)
 C.skip))))))).seq (C.ops [BC 119 .add 19 (i6 1),MV 19 119])))).loop)).seq ((C.ops [ON 120 (.call 40 true) [],MV 2 120]).seq
 C.ret)))))
theorem qDG:qM Tryz.prog 6 121 2 [RV.tmp 2] c6s:=fi Tryz.f6 [1,6] qt6 []
end
section
open Go Go.Proofs AF HY LN
namespace RC
theorem qCE{a:Cq}(h:mdB a=true):CqS a∧0≤a.lead∧qfX a.x a.l a.d a.lead.toNat∧mdR a=bsW (rwA a.x a.l a.d a.lead.toNat):=by
 unfold mdB at h;rw[Bool.and_eq_true,Bool.not_eq_true',decide_eq_true_iff]at h;obtain⟨h1,h2⟩:=h;obtain⟨h3,h4⟩:=qxM h2;refine⟨qr2 h1,h3,h4,?_⟩;unfold mdR;rw[ine (by simp[h1])];unfold esR;rw[ipo h2]
theorem qpi{x:Co}{l:List Un}{d:List Dc}{s:Nat}(h:qfX x l d s){i:Nat}(hi:i<(rwA x l d s).length){w:Wd}(hw:w=(bsW (rwA x l d s)).getD i default):
  (0≤w.col∧w.col<x.col.length)∧(w.text≠ []∧w.text.length≤64)∧(-1≤w.dec∧w.dec<d.length)∧fnU l w.col=w.unit∧(w.unit<0→w.dec= -1)∧(i≠0→((bsW (rwA x l d s)).getD (i-1) default).col≤w.col∧((bsW (rwA x l d s)).getD (i-1) default).text.length≤64):=by
 subst hw;obtain⟨g1,g2⟩:=qz7 h;have g:=g1 _ (ja (a:=default) hi);rw[qkw hi,qrD hi,qwh hi,qsI hi];refine⟨g.c,g.tx,g.d,g.u,fun e=>(g.n e).2,fun h0=> ?_⟩;have hj:i-1<(rwA x l d s).length:=by omega
 rw[qrD hj,qkw hj];refine⟨?_,(g1 _ (ja (a:=default) hj)).tx.2⟩
 have:=List.pairwise_iff_getElem.1 g2 (i-1) i hj hi om
 rw[gdqA,zH hj,gdqA,zH hi];exact this
theorem qzx(a:Cq)(h:List AObj)(hp:kY SG h)(hg:zR h frmN frmC)(hb:CqB a):ACalls Tryz.prog 6 [.agg (cqC a)] h (.bool true) h:=by
 have c1:=fun l'=>qCD a (h++l') hb (hp.app l') hg.app
 have c2:=fun l'=>qBv (h++l') (hp.app l') hg.app
 obtain⟨B,hB⟩: ∃B,B=mdB a:=⟨_,rfl⟩
 obtain⟨R,hR⟩: ∃R,R=mdR a:=⟨_,rfl⟩
 simp only[←hB,←hR]at c1;unfold cqC at c1;cases B with
 |false=>
  refine acO qDG ?_;simp (disch:=omega) only[c6s,cqC,go_sem]
  repeat' first
   |((first|refine cA (c1 _) ?_ ?_|refine cA (c2 _) ?_ ?_);exact flk;simp (disch:=omega) only[go_sem])
   |(apply qb;exact rvk;simp only[go_sem];exact qi)
   |with_reducible apply aiA
  all_goals try exact clz
 |true=>
 obtain⟨z,e0,E,hRe⟩:=qCE hB.symm;rw[←hR]at hRe;have hlen:R.length=(rwA a.x a.l a.d a.lead.toNat).length:=by rw[hRe,qav]
 have hln:=E.ln;have zl:=z.l.n;have zd:=z.d;have zc:=z.cl;have F: ∀i,i<R.length→ ∀w,w=R.getD i default→(0≤w.col∧w.col<a.x.col.length)∧(w.text≠ []∧w.text.length≤64)∧(-1≤w.dec∧w.dec<a.d.length)∧fnU a.l w.col=w.unit∧(w.unit<0→w.dec= -1)∧(i≠0→(R.getD (i-1) default).col≤w.col∧(R.getD (i-1) default).text.length≤64):=fun i hi w hw=>by
  rw[hRe]at hw ⊢;exact qpi E om hw
 have J: ∀i,i<R.length→(R.getD i default).joined=true→i≠0∧(jl (R.getD (i-1) default).text=true→jl (R.getD i default).text=false∧(R.getD i default).text≠ [39]):=fun i hi hj=>by
  rw[hRe]at hj ⊢;exact qtB om hj
 have zd1: ∀g,valL g .len [qao a.d]= .int .i64 a.d.length:=fun _=>rfl
 have zd2: ∀g,okL g .len [qao a.d]=True:=fun _=>eqt trivial
 have zc1: ∀g,valL g .len [qv a.x.col]= .int .i64 a.x.col.length:=fun _=>rfl
 have zc2: ∀g,okL g .len [qv a.x.col]=True:=fun _=>eqt trivial
 have zR1: ∀g,valL g .len [kE R]= .int .i64 R.length:=fun _=>rfl
 have zR2: ∀g,okL g .len [kE R]=True:=fun _=>eqt trivial
 refine acO qDG ?_;simp (disch:=omega) only[c6s,cqC,go_sem]
 repeat' first
  |(refine cA (c1 _) flk ?_;simp (disch:=omega) only[zR1,zR2,go_sem])
  |with_reducible apply aiA
 all_goals try exact clz
 refine qt (T:=fun i:Nat×AObj=>qY 121 [(1,.op h.length 1 0),(3,kE R),(17,kE R),(18,.int .i64 R.length),(19,.int .i64 i.1)])
  (H:=fun i=>h++ [.mem 1 75 (cqC a),i.2])
  (inv:=fun i=>i.1≤R.length∧qJ [i.2] 0=true) (m:=fun i=>R.length-i.1) (0,.emp 0) ⟨nzl _,rfl⟩ (Wk.temps ?_) ?_
 ·(simp only[kE,go_sem,qg,qc,qa,qf];try (repeat' first|(with_reducible apply aiA)|(apply qh;omega)|(apply qd;rfl)|exact qi))
 rintro⟨i,O⟩ ⟨i1,i2⟩ K hK;simp only at i1 i2 hK;have i2': ∀m,qJ (O::m) 0=true:=fun _=>i2
 by_cases hi:i<R.length
 ·have k1:((i:Int)<R.length)=True:=eqt om;have hj:=J i hi;obtain⟨w,hw⟩: ∃w,w=R.getD i default:=⟨_,rfl⟩
  have ew:=hw.symm;obtain⟨⟨f1,f2⟩,⟨f3,f4⟩,⟨f5,f6⟩,f7,f8,f9⟩:=F i hi w hw;rw[ew]at hj;have c3:=fun h=>qBk a.l w.col h zl
  have eR:fnR a.l w.col=w.unit:=by unfold fnR;rw[ine om];exact f7
  have eE:fnE w.col=0:=by unfold fnE;rw[ine om]
  rw[eR,eE]at c3;have q1:(w.col<0)=False:=eqf om;have q2:((a.x.col.length:Int)≤w.col)=False:=eqf om;have q3:(w.text= [])=False:=eqf f3;have q4:(w.dec< -1)=False:=eqf om;have q5:((a.d.length:Int)≤w.dec)=False:=eqf om;have q6:(w.unit=w.unit)=True:=eqt rfl;have wu:(w.unit<0)=False∨((w.unit<0)=True∧(0≤w.dec)=False):=by
   by_cases e:w.unit<0
   ·exact .inr ⟨eqt e,eqf (by have:=f8 e;omega)⟩
   ·exact .inl (eqf e)
  have fin: ∀X:AObj,X= .mem (qo (some O)+1) 36 (wdC w)→qJ [X] 0=true:=fun X hX=>by rw[hX];rfl
  by_cases h0:i=0
  ·have hjf:w.joined=false:=by
    cases hjj:w.joined with
    |false=>rfl
    |true=>exact absurd h0 (hj hjj).1
   have q7:((i:Int)=0)=True:=eqt om;have q8:((0:Int)<i)=False:=eqf om;rcases wu with q9|⟨q9,q10⟩
   ·skip
    simp (disch:=omega) only[kE,wdC,cqC,k1,ew,i2',q7,hjf,go_sem]
    repeat' first
     |(refine qj ( .bool false) ?_;simp (disch:=omega) only[zc1,zc2,zd1,zd2,q1,q2,q3,q4,q5,q8,go_sem])
     |(refine cA (c3 _) flk ?_;simp (disch:=omega) only[q9,go_sem])
     |(apply qb;exact rvk;simp only[go_sem];apply qd)
     |with_reducible first|intro _|apply aiA
    all_goals try exact clz
    refine hK _ _ (i+1,.mem (qo (some O)+1) 36 (wdC w)) ⟨hi,rfl⟩ (by simp only;omega) ?_;simp only[wdC,hjf];refine Wk.temps ?_
    (simp only[kE,wdC,go_sem,qg,qc,qa,qf];try (repeat' first|(with_reducible apply aiA)|(apply qh;omega)|(apply qd;rfl)|exact qi))
   ·skip
    simp (disch:=omega) only[kE,wdC,cqC,k1,ew,i2',q7,hjf,go_sem]
    repeat' first
     |(refine qj ( .bool false) ?_;simp (disch:=omega) only[zc1,zc2,zd1,zd2,q1,q2,q3,q4,q5,q8,go_sem])
     |(refine cA (c3 _) flk ?_;simp (disch:=omega) only[q9,q10,go_sem])
     |(apply qb;exact rvk;simp only[go_sem];apply qd)
     |with_reducible first|intro _|apply aiA
    all_goals try exact clz
    refine hK _ _ (i+1,.mem (qo (some O)+1) 36 (wdC w)) ⟨hi,rfl⟩ (by simp only;omega) ?_;simp only[wdC,hjf];refine Wk.temps ?_
    (simp only[kE,wdC,go_sem,qg,qc,qa,qf];try (repeat' first|(with_reducible apply aiA)|(apply qh;omega)|(apply qd;rfl)|exact qi))
  obtain⟨f10,f11⟩:=f9 h0;obtain⟨v,hv⟩: ∃v,v=R.getD (i-1) default:=⟨_,rfl⟩
  have ev:=hv.symm;rw[ev]at hj f10 f11;have q7:((i:Int)=0)=False:=eqf om;have q8:((0:Int)<i)=True:=eqt om;have p1:((i:Int)-1).toNat=i-1:=by omega
  have p2:(0≤(i:Int)-1)=True:=eqt om;have p3:((i:Int)-1<R.length)=True:=eqt om;have p4:(w.col<v.col)=False:=eqf om;have c4:=fun h=>t93 v.text h om
  have c5:=fun h=>t93 w.text h om
  cases hjw:w.joined with
  |false=>
   rcases wu with q9|⟨q9,q10⟩
   ·skip
    simp (disch:=omega) only[kE,wdC,cqC,k1,ew,i2',q7,p1,p2,p3,ev,hjw,go_sem]
    repeat' first
     |(refine qj ( .bool false) ?_;simp (disch:=omega) only[zc1,zc2,zd1,zd2,q1,q2,q3,q4,q5,q8,p1,p2,p3,p4,ev,go_sem])
     |(refine cA (c3 _) flk ?_;simp (disch:=omega) only[q9,go_sem])
     |(apply qb;exact rvk;simp only[go_sem];apply qd)
     |with_reducible first|intro _|apply aiA
    all_goals try exact clz
    refine hK _ _ (i+1,.mem (qo (some O)+1) 36 (wdC w)) ⟨hi,rfl⟩ (by simp only;omega) ?_;simp only[wdC,hjw];refine Wk.temps ?_
    (simp only[kE,wdC,go_sem,qg,qc,qa,qf];try (repeat' first|(with_reducible apply aiA)|(apply qh;omega)|(apply qd;rfl)|exact qi))
   ·skip
    simp (disch:=omega) only[kE,wdC,cqC,k1,ew,i2',q7,p1,p2,p3,ev,hjw,go_sem]
    repeat' first
     |(refine qj ( .bool false) ?_;simp (disch:=omega) only[zc1,zc2,zd1,zd2,q1,q2,q3,q4,q5,q8,p1,p2,p3,p4,ev,go_sem])
     |(refine cA (c3 _) flk ?_;simp (disch:=omega) only[q9,q10,go_sem])
     |(apply qb;exact rvk;simp only[go_sem];apply qd)
     |with_reducible first|intro _|apply aiA
    all_goals try exact clz
    refine hK _ _ (i+1,.mem (qo (some O)+1) 36 (wdC w)) ⟨hi,rfl⟩ (by simp only;omega) ?_;simp only[wdC,hjw];refine Wk.temps ?_
    (simp only[kE,wdC,go_sem,qg,qc,qa,qf];try (repeat' first|(with_reducible apply aiA)|(apply qh;omega)|(apply qd;rfl)|exact qi))
  |true=>
   obtain⟨_,hj⟩:=hj hjw;cases hvw:jl v.text with
   |false=>
    rw[hvw]at c4;rcases wu with q9|⟨q9,q10⟩
    ·skip
     simp (disch:=omega) only[kE,wdC,cqC,k1,ew,i2',q7,p1,p2,p3,ev,hjw,go_sem]
     repeat' first
      |(refine qj ( .bool false) ?_;simp (disch:=omega) only[zc1,zc2,zd1,zd2,q1,q2,q3,q4,q5,q8,p1,p2,p3,p4,ev,go_sem])
      |((first|refine cA (c3 _) ?_ ?_|refine cG (fun e=>c4 _) ?_ ?_);exact flk;simp (disch:=omega) only[q9,go_sem])
      |(apply qb;exact rvk;simp only[go_sem];apply qd)
      |with_reducible first|intro _|apply aiA
     all_goals try exact clz
     refine hK _ _ (i+1,.mem (qo (some O)+1) 36 (wdC w)) ⟨hi,rfl⟩ (by simp only;omega) ?_;simp only[wdC,hjw];refine Wk.temps ?_
     (simp only[kE,wdC,go_sem,qg,qc,qa,qf];try (repeat' first|(with_reducible apply aiA)|(apply qh;omega)|(apply qd;rfl)|exact qi))
    ·skip
     simp (disch:=omega) only[kE,wdC,cqC,k1,ew,i2',q7,p1,p2,p3,ev,hjw,go_sem]
     repeat' first
      |(refine qj ( .bool false) ?_;simp (disch:=omega) only[zc1,zc2,zd1,zd2,q1,q2,q3,q4,q5,q8,p1,p2,p3,p4,ev,go_sem])
      |((first|refine cA (c3 _) ?_ ?_|refine cG (fun e=>c4 _) ?_ ?_);exact flk;simp (disch:=omega) only[q9,q10,go_sem])
      |(apply qb;exact rvk;simp only[go_sem];apply qd)
      |with_reducible first|intro _|apply aiA
     all_goals try exact clz
     refine hK _ _ (i+1,.mem (qo (some O)+1) 36 (wdC w)) ⟨hi,rfl⟩ (by simp only;omega) ?_;simp only[wdC,hjw];refine Wk.temps ?_
     (simp only[kE,wdC,go_sem,qg,qc,qa,qf];try (repeat' first|(with_reducible apply aiA)|(apply qh;omega)|(apply qd;rfl)|exact qi))
   |true=>
    obtain⟨g1,g2⟩:=hj hvw;rw[hvw]at c4;rw[g1]at c5;have q11:(w.text= [39])=False:=eqf g2;rcases wu with q9|⟨q9,q10⟩
    ·skip
     simp (disch:=omega) only[kE,wdC,cqC,k1,ew,i2',q7,p1,p2,p3,ev,hjw,go_sem]
     repeat' first
      |((first|refine cA (c3 _) ?_ ?_|refine cG (fun e=>c4 _) ?_ ?_|refine cG (fun e=>c5 _) ?_ ?_);exact flk;simp (disch:=omega) only[zc1,zc2,zd1,zd2,q1,q2,q3,q4,q5,q8,p1,p2,p3,p4,ev,q11,q9,go_sem])
      |(apply qb;exact rvk;simp only[go_sem];apply qd)
      |with_reducible first|intro _|apply aiA
     all_goals try exact clz
     refine hK _ _ (i+1,.mem (qo (some O)+1) 36 (wdC w)) ⟨hi,rfl⟩ (by simp only;omega) ?_;simp only[wdC,hjw];refine Wk.temps ?_
     (simp only[kE,wdC,go_sem,qg,qc,qa,qf];try (repeat' first|(with_reducible apply aiA)|(apply qh;omega)|(apply qd;rfl)|exact qi))
    ·skip
     simp (disch:=omega) only[kE,wdC,cqC,k1,ew,i2',q7,p1,p2,p3,ev,hjw,go_sem]
     repeat' first
      |((first|refine cA (c3 _) ?_ ?_|refine cG (fun e=>c4 _) ?_ ?_|refine cG (fun e=>c5 _) ?_ ?_);exact flk;simp (disch:=omega) only[zc1,zc2,zd1,zd2,q1,q2,q3,q4,q5,q8,p1,p2,p3,p4,ev,q11,q9,q10,go_sem])
      |with_reducible apply aiA
     all_goals try exact clz
     refine hK _ _ (i+1,.mem (qo (some O)+1) 36 (wdC w)) ⟨hi,rfl⟩ (by simp only;omega) ?_;simp only[wdC,hjw];refine Wk.temps ?_
     (simp only[kE,wdC,go_sem,qg,qc,qa,qf];try (repeat' first|(with_reducible apply aiA)|(apply qh;omega)|(apply qd;rfl)|exact qi))
 have k1:((i:Int)<R.length)=False:=eqf om;simp (disch:=omega) only[k1,go_sem]
 repeat' first
  |(refine cA (c2 _) flk ?_;simp (disch:=omega) only[go_sem])
  |(apply qb;exact rvk;simp only[go_sem];exact qi)
end RC
end
section
open Go Go.Proofs AF HY Go.ChangeShapes Go.RowKit
namespace LN
theorem qCs : Tryz.prog.globalNamed "internal/strconv.uint64pow10" = some 4 := by kernel_rfl
theorem qCu : Tryz.prog.globalNamed "strconv.ErrSyntax" = some 5 := by kernel_rfl
theorem qCt : Tryz.prog.globalNamed "strconv.ErrRange" = some 6 := by kernel_rfl
theorem qDH : Tryz.prog.globalNamed "apograph/transcript.forms" = some 3 := by kernel_rfl
theorem qqq{w w':World}(h:qsq w)(e:w'.heap[4]? =w.heap[4]?):qsq w':=by
 unfold qsq Lib.TabIs at*;rw[qeK qCs e];exact h
theorem qgB : "*" ++ "errors.errorString" = "*errors.errorString" := by decide
theorem qsh (u : TypeId) (h : Tryz.prog.typeName? 3 u = some "*errors.errorString") : u = 329 :=
 typeName_ptr_named (nm := "errors.errorString") (by rw [qgB]; kernel_rfl) (by kernel_rfl) (by decide) u (by rw [qgB]; exact h)
structure Fr where
 s:List UInt8
 a:Bool
 b:Bool
 c:Bool
def Fr.av(r:Fr):List AV:= [.str r.s,.bool r.a,.bool r.b,.bool r.c]
def Fr.vl(r:Fr):List Value:= [.string ⟨r.s.toArray⟩,.bool r.a,.bool r.b,.bool r.c]
def Fr.da{H:Type}(r:Fr):DataW H:= .agg [.lit (.string r.s),.lit (.bool r.a),.lit (.bool r.b),.lit (.bool r.c)]
def frL:List Fr:= [⟨[],false,false,false⟩,⟨[],true,false,false⟩,⟨[108,98],false,false,false⟩,⟨[112,98],true,false,false⟩,⟨[115,101,99],true,false,false⟩,⟨[118],false,false,false⟩,
 ⟨[103,97,112],false,true,false⟩,⟨[117,110,99,108,101,97,114],false,false,true⟩,⟨[97,100,100],false,true,true⟩,⟨[100,101,108],false,true,true⟩,⟨[97,98],true,false,true⟩,⟨[110,97,109,101],true,false,true⟩]
theorem qzd:RC.frmC=frL.flatMap Fr.av:=rfl
theorem qze:(YthjkfdakolejgaaGreatDoor.Rows.laid_apograph_transcript_forms:DataW Unit)= .agg (frL.map Fr.da):=rfl
theorem qB8{α β:Type}{f:α→List β}(hf: ∀a,(f a).length=4): ∀(l:List α) (i j:Nat),j<4→(l.flatMap f)[i*4+j]? =(l[i]?).bind fun a=>(f a)[j]? :=by
 intro l
 induction l with
 |nil=>intro i j _;simp
 |cons a l ih=>
  intro i j hj;rw[List.flatMap_cons];cases i with
  |zero=>
   rw[Nat.zero_mul,Nat.zero_add,List.getElem?_append_left (by rw[hf];exact hj)];rfl
  |succ i=>
   rw[List.getElem?_append_right (by rw[hf];omega),hf,show (i+1)*4+j-4=i*4+j by omega,ih i j hj];rfl
theorem qdC:Tryz.prog.cellsOf 300=4:=by kernel_rfl
theorem qf3:Tryz.prog.cellsOf 301=48:=by kernel_rfl
theorem qo2:Tryz.prog.cellsOf 9=1:=by kernel_rfl
theorem qo0:Tryz.prog.cellsOf 4=1:=by kernel_rfl
theorem qz5{H:Type}{enc:TypeId×Value→H}{w:World}{base fuel:Nat}{spare:Nat→Bool}{held:Bool}{cs:List Value}{x:DataW H×List MemPlace}{r:Fr}
  (h:DataW.trod enc Tryz.prog w base spare held fuel 300 cs=some x) (hx:x.1=r.da):cs=r.vl:=by
 obtain⟨xs,n,_,hxe,hl,hxl,hf⟩:=DataW.trod_struct Tryz.underlying300 h;rw[qdC]at hl
 match cs,hl with
 | [v0,v1,v2,v3],_=>
 match xs,hxl with
 | [y0,y1,y2,y3],_=>
  have h0:DataW.trod enc Tryz.prog w base spare held n 9 (([v0,v1,v2,v3].drop 0).take (Tryz.prog.cellsOf 9))= [y0,y1,y2,y3][0]? :=hf 0 _ rfl;have h1:DataW.trod enc Tryz.prog w base spare held n 4 (([v0,v1,v2,v3].drop 1).take (Tryz.prog.cellsOf 4))= [y0,y1,y2,y3][1]? :=hf 1 _ rfl;have h2:DataW.trod enc Tryz.prog w base spare held n 4 (([v0,v1,v2,v3].drop 2).take (Tryz.prog.cellsOf 4))= [y0,y1,y2,y3][2]? :=hf 2 _ rfl;have h3:DataW.trod enc Tryz.prog w base spare held n 4 (([v0,v1,v2,v3].drop 3).take (Tryz.prog.cellsOf 4))= [y0,y1,y2,y3][3]? :=hf 3 _ rfl;rw[qo2]at h0;rw[qo0]at h1 h2 h3;obtain⟨s,e0,x0,_⟩:=DataW.trod_string Tryz.underlying9 h0;obtain⟨b1,e1,x1⟩:=DataW.trod_bool Tryz.underlying4 h1;obtain⟨b2,e2,x2⟩:=DataW.trod_bool Tryz.underlying4 h2;obtain⟨b3,e3,x3⟩:=DataW.trod_bool Tryz.underlying4 h3;have hy:([y0,y1,y2,y3]:List (DataW H×List MemPlace)).map (·.1)= [.lit (.string r.s),.lit (.bool r.a),.lit (.bool r.b),.lit (.bool r.c)]:=by
   have hx:=hxe▸hx;exact DataW.agg.inj hx
  rw[x0,x1,x2,x3]at hy;simp at hy e0 e1 e2 e3;obtain⟨g0,g1,g2,g3⟩:=hy;unfold Fr.vl;subst e0 e1 e2 e3;rw[←g0,g1,g2,g3]
theorem qCr {W : World} {rest : List (String × DataW Unit)} (h : laidMet Tryz.prog (("apograph/transcript.forms", YthjkfdakolejgaaGreatDoor.Rows.laid_apograph_transcript_forms) :: rest) W) : qhY 3 RC.frmC W := by
 obtain⟨ps,⟨g',t',cs,fuel,p,q,hg',ht',hvar,hd,_,_⟩,_⟩:=h;obtain rfl:=Option.some.inj (qDH.symm.trans hg');obtain rfl:301=t':=Option.some.inj ((show (Tryz.prog.globals[3]?).map (·.type)=some 301 by kernel_rfl).symm.trans ht');obtain⟨xs,m,_,hxe,hl,hxl,hr⟩:=DataW.trod_array Tryz.underlying301 hd;rw[qf3]at hl;have hxm:xs.map (·.1)=frL.map Fr.da:=by
  have:=congrArg Prod.fst hxe
  rw[qze]at this;exact (DataW.agg.inj this).symm
 have rows: ∀i r,frL[i]? =some r→(cs.toList.drop (i*4)).take 4=r.vl:=fun i r hi=>by
  have hil:i<12:=(lgs.1 hi).1;have e1:(xs.map (·.1))[i]? =some r.da:=by rw[hxm,List.getElem?_map,hi];rfl
  rw[List.getElem?_map,Option.map_eq_some_iff]at e1;obtain⟨y,hy,hy1⟩:=e1;have h1:=hr i hil;rw[hy,qdC]at h1;exact qz5 h1 hy1
 have hv: ∃T fz,W.heap[3]? =some (.cells cs T fz):=by
  unfold World.var? at hvar;rw[qDH]at hvar;simp only[Option.bind_some]at hvar;split at hvar
  ·rename_i c T fz hc;cases hvar;exact⟨_,_,hc⟩
  ·cases hvar
 obtain⟨T,fz,hc⟩:=hv;refine⟨cs,T,fz,hc,?_,?_⟩
 ·have:cs.size=48:=by simpa using hl
  rw[this];exact Nat.le_of_eq rfl
 intro i c x hi hx;have hij:i=i/4*4+i%4:=by omega
 rw[qzd,hij,qB8 (fun _=>rfl) frL _ _ (Nat.mod_lt _ (by decide)),Option.bind_eq_some_iff]at hi;obtain⟨r,hr1,hr2⟩:=hi;have h2:=rows _ _ hr1;have h3:r.vl[i%4]? =some x:=by
  rw[←h2,List.getElem?_take,ipo (Nat.mod_lt _ (by decide)),List.getElem?_drop,←hij];simpa using hx
 have h4:i%4<4:=Nat.mod_lt _ (by decide);obtain⟨j,hj⟩: ∃j,j=i%4:=⟨_,rfl⟩
 rw[←hj]at hr2 h3 h4
 match j,h4 with
 |0,_=>cases hr2;cases h3;exact⟨rfl,fun _ _=> .str⟩
 |1,_=>cases hr2;cases h3;exact⟨rfl,fun _ _=> .bool⟩
 |2,_=>cases hr2;cases h3;exact⟨rfl,fun _ _=> .bool⟩
 |3,_=>cases hr2;cases h3;exact⟨rfl,fun _ _=> .bool⟩
theorem qtP{w w':World}(h:qhY 3 RC.frmC w)(e:w'.heap[3]? =w.heap[3]?):qhY 3 RC.frmC w':=by
 obtain⟨arr,T,fz,h1,h2⟩:=h;exact⟨arr,T,fz,e.trans h1,h2⟩
def qcu:List Nat:= [3,4,5,6]
def qAk(w:World):Prop:=RC.SG w∧qhY 3 RC.frmC w
theorem qAl{W:World}(h:laidMet Tryz.prog YthjkfdakolejgaaGreatDoor.Rows.decisionSpacesRow.laid W):qsq W∧qBd W∧qhY 3 RC.frmC W:=by
 have h2:=laidMet.tail (laidMet.tail h);have h3:=laidMet.tail h2;have h4:=laidMet.tail h3;have h5:=laidMet.tail h4;obtain⟨a,s,e1,_⟩:=laid_sentinel (g:=6) (ti:=158) (tp:=329) (te:=331) (ts:=9) h3 qCt (by kernel_rfl) Tryz.underlying158 qsh Tryz.underlying329 Tryz.underlying331 rfl rfl Tryz.underlying9 (by kernel_rfl) (by kernel_rfl);obtain⟨b,t,e2,_⟩:=laid_sentinel (g:=5) (ti:=158) (tp:=329) (te:=331) (ts:=9) h4 qCu (by kernel_rfl) Tryz.underlying158 qsh Tryz.underlying329 Tryz.underlying331 rfl rfl Tryz.underlying9 (by kernel_rfl) (by kernel_rfl);exact⟨Lib.tabIs_of_head (t:=308) (e:=213) (n:=20) qCs (by kernel_rfl) Tryz.underlying308 Tryz.underlying213 (by kernel_rfl) (by kernel_rfl) h2,⟨⟨_,_,e2⟩,_,_,e1⟩,qCr h5⟩
theorem qqO{W:World}(h:laidMet Tryz.prog YthjkfdakolejgaaGreatDoor.Rows.decisionSpacesRow.laid W): ∀b,b∈qcu→ ∃arr T fz,W.heap[b]? =some (.cells arr T fz):=by
 intro b hb;obtain⟨h1,⟨⟨_,_,h2⟩,_,_,h3⟩,arr,T,fz,h4,_⟩:=qAl h;have e:b=3∨b=4∨b=5∨b=6:=by simpa[qcu] using hb
 rcases e with rfl|rfl|rfl|rfl
 ·exact⟨_,_,_,h4⟩
 ·exact qdh qCs h1
 ·exact qdh qCu h2
 ·exact qdh qCt h3
theorem qvc{W:World}(h:laidMet Tryz.prog YthjkfdakolejgaaGreatDoor.Rows.decisionSpacesRow.laid W): ∀w':World,(∀b,b∈qcu→w'.heap[b]? =W.heap[b]?)→qAk w':=by
 intro w' hs;obtain⟨h1,⟨⟨t1,p1,h2⟩,t2,p2,h3⟩,h4⟩:=qAl h;refine⟨⟨qqq h1 (hs 4 (by simp[qcu])),⟨t1,p1,?_⟩,t2,p2,?_⟩,qtP h4 (hs 3 (by simp[qcu]))⟩
 ·rw[qeK qCu (hs 5 (by simp[qcu]))];exact h2
 ·rw[qeK qCt (hs 6 (by simp[qcu]))];exact h3
theorem qvb:kY RC.SG [.pin qcu qAk]:=⟨0,_,_,rfl,fun _ h=>h.1⟩
theorem qva:zR [.pin qcu qAk] RC.frmN RC.frmC:=⟨0,_,_,rfl,by simp[qcu],fun _ h=>h.2⟩
end LN
end
