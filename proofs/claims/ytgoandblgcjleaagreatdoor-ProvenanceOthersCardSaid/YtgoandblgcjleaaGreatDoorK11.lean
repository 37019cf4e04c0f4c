import Derived.Test.YtgoandblgcjleaaGreatDoorK10
import Derived.Test.YtgoandblgcjleaaGreatDoorK3
import Derived.Test.YtgoandblgcjleaaGreatDoorK4
import Derived.Test.YtgoandblgcjleaaGreatDoorK8
import Derived.Test.YtgoandblgcjleaaGreatDoorProg
import Derived.Test.YtgoandblgcjleaaGreatDoorK9
set_option linter.all false
set_option linter.unusedSimpArgs false
set_option linter.unusedVariables false
set_option linter.unusedSectionVars false
set_option maxHeartbeats 64000000
set_option maxRecDepth 100000
section
open Go Go.Proofs AF HY LN
namespace AF
structure qsD (E:AV) (n:Nat) (cs:List AV):Prop where
 fl:E.flag=true
 st:E.strip=E
 vl: ∀g,valL g .len [E]= .int .i64 n
 ok: ∀g,okL g .len [E]=True
 sc: ∀g,qo g E=some (n,cs)
 ap: ∀k v z p m,qbF (.osl k v z p m) E=true
theorem qsD.sl(n:Nat)(f:Nat→List AV):qsD (.sl n f) n ((List.range n).flatMap f):=⟨rfl,rfl,fun _=>rfl,fun _=>eqt trivial,fun _=>rfl,fun _ _ _ _ _=>rfl⟩
end AF
namespace RC
theorem qsD.strs(L:List Str):qsD (strs L) L.length (zZ L):=⟨rfl,rfl,fun _=>rfl,fun _=>eqt trivial,fun g=>qol g L,fun _ _ _ _ _=>rfl⟩
theorem qsD.sub{t:List Str}{a b:Nat}(h1:a≤b)(h2:b≤t.length):qsD (.sl (b-a) fun i=> [.str (t.getD (a+i) [])]) (ql9 t a b).length (zZ (ql9 t a b)):=by
 rw[qow h1 h2];exact⟨rfl,rfl,fun _=>rfl,fun _=>eqt trivial,fun g=>qln g h1 h2,fun _ _ _ _ _=>rfl⟩
end RC
end
section
open Go Go.Proofs AF HY LN
namespace RC
def qhy(ms:List Nat):AV:= .sl ms.length fun i=> [.int .u64 ((ms.getD i 0:Nat):Int)]
theorem qgH(L:List Nat):(qhy L).flag=true:=rfl
theorem qfb(L:List Nat):(qhy L).strip=qhy L:=rfl
theorem qe1(L:List Nat):(qhy L).solid=true:=rfl
theorem qeB(L:List Nat):(qhy L).cells= [qhy L]:=rfl
attribute [go_sem] qgH qfb qe1 qeB
end RC
end
section
open Go Go.Proofs AF
end
section
open Go Go.Proofs AF HY LN
namespace RC
theorem qjY(L:List Int)(n:Nat): ∀c∈qW L,jb n c=true:=by
 intro c hc;unfold qW at hc;obtain⟨x,_,rfl⟩:=List.mem_map.1 hc;rfl
structure qga (L:List Rd) (s:Nat):Prop where
 src: ∀r∈L,r.src.Pairwise (· < ·)∧ ∀x∈r.src,0≤x∧x<s
 ne: ∀i j,i<j→j<L.length→(L.getD i default).words≠(L.getD j default).words
theorem qae(L:List Rd)(w:List Str):(∃i,i<L.length∧(L.getD i default).words=w∧qem L w=i)∨((∀i,i<L.length→(L.getD i default).words≠w)∧qem L w<0):=by
 unfold qem;rcases zY (fun j=>decide (w=(L.getD j default).words)) L.length with⟨i,h1,h2,_,h4⟩|⟨h1,h2⟩
 ·exact .inl ⟨i,h1,(of_decide_eq_true h2).symm,h4⟩
 ·exact .inr ⟨fun i hi e=>of_decide_eq_false (h1 i hi) e.symm,om⟩
theorem jF{L:List Rd}{i j:Nat}{r:Rd}(hi:i<L.length):(L.set i r).getD j default=if j=i then r else L.getD j default:=by
 rw[gdqA,List.getElem?_set]
 by_cases e:i=j
 ·subst e;rw[ipo rfl,ipo hi,ipo rfl];rfl
 ·rw[ine e,ine (fun h=>e h.symm),gdqA]
theorem qme{L:List Rd}{w:List Str}{s:Nat}(h:qga L s):qga (qcI L w s) (s+1):=by
 have g: ∀i (hi:i<L.length),L.getD i default=L[i]:=fun i hi=>by rw[gdqA,jr hi];rfl
 rcases qae L w with⟨i,h1,h2,h3⟩|⟨h1,h2⟩
 ·have e:qcI L w s=L.set i ⟨w,(L.getD i default).src++ [(s:Int)]⟩:=by
   unfold qcI;rw[h3,ine om,itn]
  rw[e];have hm:=h.src (L.getD i default) (by rw[g i h1];exact List.getElem_mem h1);refine⟨fun r hr=> ?_,fun a b hab hb=> ?_⟩
  ·rcases List.mem_or_eq_of_mem_set hr with hr|rfl
   ·obtain⟨a,b⟩:=h.src r hr;exact⟨a,fun x hx=>by have:=b x hx;omega⟩
   ·refine⟨List.pairwise_append.2 ⟨hm.1,List.pairwise_singleton _ _,fun a ha b hb=> ?_⟩,fun x hx=> ?_⟩
    ·rw[List.mem_singleton]at hb
     have:=hm.2 a ha
     omega
    ·rcases List.mem_append.1 hx with hx|hx
     ·have:=hm.2 x hx;omega
     ·rw[List.mem_singleton]at hx;omega
  ·rw[List.length_set]at hb;rw[jF h1,jF h1];have key: ∀j,j<L.length→j≠i→(L.getD j default).words≠w:=fun j hj hne e=>by
    rw[←h2]at e;rcases Nat.lt_or_gt_of_ne hne with hlt|hlt
    ·exact h.ne j i hlt h1 e
    ·exact h.ne i j hlt hj e.symm
   by_cases ea:a=i
   ·rw[ipo ea,ine om];exact fun e=>key b hb om e.symm
   ·rw[ine ea]
    by_cases eb:b=i
    ·rw[ipo eb];exact key a om ea
    ·rw[ine eb];exact h.ne a b hab hb
 ·have e:qcI L w s=L++ [⟨w,[(s:Int)]⟩]:=by
   unfold qcI;rw[ipo h2]
  rw[e];refine⟨fun r hr=> ?_,fun a b hab hb=> ?_⟩
  ·rcases List.mem_append.1 hr with hr|hr
   ·obtain⟨a,b⟩:=h.src r hr;exact⟨a,fun x hx=>by have:=b x hx;omega⟩
   ·rw[List.mem_singleton]at hr;subst hr;exact⟨List.pairwise_singleton _ _,fun x hx=>by rw[List.mem_singleton]at hx;omega⟩
  ·rw[lap,List.length_singleton]at hb;have ga: ∀j,j<L.length→(L++ [(⟨w,[(s:Int)]⟩:Rd)]).getD j default=L.getD j default:=fun j hj=>by
    rw[gdqA,List.getElem?_append_left hj,gdqA]
   rw[ga a om]
   by_cases eb:b<L.length
   ·rw[ga b eb];exact h.ne a b hab eb
   ·have:b=L.length:=by omega
    subst this;have gb:(L++ [(⟨w,[(s:Int)]⟩:Rd)]).getD L.length default=⟨w,[(s:Int)]⟩:=by
     rw[gdqA,List.getElem?_append_right (nlr _),Nat.sub_self];rfl
    rw[gb];exact h1 a om
theorem qbC(x:Co)(f d:Nat): ∀s,qga (jJ x f d s) s:=by
 intro s
 induction s with
 |zero=>exact⟨fun r hr=>absurd hr List.not_mem_nil,fun i j _ h=>absurd h (nnz j)⟩
 |succ s ih=>exact qme ih
theorem qfX(x:Co)(f t:Nat):qga (qcy x f t) x.sig.length:=qbC x f (t-f) x.sig.length
def owG(b:List Wd)(k:Int):Nat→List Str
 |0=> []
 |i+1=>owG b k i++if (b.getD i default).unit=k then [(b.getD i default).text] else []
structure qpD (L:List Rd) (s:Nat) (W:Nat→List Str):Prop where
 has: ∀i,i<s→ ∃j,j<L.length∧(i:Int)∈(L.getD j default).src
 wd: ∀j,j<L.length→ ∀x∈(L.getD j default).src,(L.getD j default).words=W x.toNat
 nn: ∀j,j<L.length→(L.getD j default).src≠ []
theorem qay{L:List Rd}{r:Rd}{j:Nat}:(L++ [r]).getD j default=if j<L.length then L.getD j default else if j=L.length then r else default:=by
 rw[gdqA];split
 ·rename_i h;rw[List.getElem?_append_left h,gdqA]
 ·rename_i h;rw[List.getElem?_append_right om];split
  ·rename_i e;subst e;rw[Nat.sub_self];rfl
  ·rw[List.getElem?_eq_none (by rw[List.length_singleton];omega)];rfl
theorem qmd{L:List Rd}{s:Nat}{W:Nat→List Str}(h:qpD L s W):qpD (qcI L (W s) s) (s+1) W:=by
 rcases qae L (W s)with⟨k,h1,h2,h3⟩|⟨h1,h2⟩
 ·have e:qcI L (W s) s=L.set k ⟨W s,(L.getD k default).src++ [(s:Int)]⟩:=by
   unfold qcI;rw[h3,ine om,itn]
  rw[e];refine⟨fun i hi=> ?_,fun j hj x hx=> ?_,fun j hj=> ?_⟩
  ·by_cases ei:i=s
   ·subst ei;exact⟨k,by rw[List.length_set];exact h1,by rw[jF h1,ipo rfl];exact List.mem_append_right _ (List.mem_singleton.2 rfl)⟩
   ·obtain⟨j,hj,hx⟩:=h.has i om;refine⟨j,by rw[List.length_set];exact hj,?_⟩;rw[jF h1];split
    ·rename_i e';subst e';exact List.mem_append_left _ hx
    ·exact hx
  ·rw[List.length_set]at hj;rw[jF h1]at hx ⊢;split at hx
   ·rename_i e';rw[ipo e'];rcases List.mem_append.1 hx with hx|hx
    ·rw[←h2];exact h.wd k h1 x hx
    ·rw[List.mem_singleton]at hx;subst hx;rfl
   ·rename_i e';rw[ine e'];exact h.wd j hj x hx
  ·rw[List.length_set]at hj;rw[jF h1];split
   ·exact fun e=>absurd (List.append_eq_nil_iff.1 e).2 (by simp)
   ·exact h.nn j hj
 ·have e:qcI L (W s) s=L++ [⟨W s,[(s:Int)]⟩]:=by
   unfold qcI;rw[ipo h2]
  rw[e];refine⟨fun i hi=> ?_,fun j hj x hx=> ?_,fun j hj=> ?_⟩
  ·by_cases ei:i=s
   ·subst ei;exact⟨L.length,by rw[lap,List.length_singleton];omega,by rw[qay,ine om,ipo rfl];exact List.mem_singleton.2 rfl⟩
   ·obtain⟨j,hj,hx⟩:=h.has i om;exact⟨j,by rw[lap,List.length_singleton];omega,by rw[qay,ipo hj];exact hx⟩
  ·rw[lap,List.length_singleton]at hj;rw[qay]at hx ⊢;split at hx
   ·rename_i hl;rw[ipo hl];exact h.wd j hl x hx
   ·rename_i hl;rw[ine hl,ipo om];rw[ipo om]at hx;rw[List.mem_singleton]at hx;subst hx;rfl
  ·rw[lap,List.length_singleton]at hj;rw[qay];split
   ·rename_i hl;exact h.nn j hl
   ·rw[ipo om];simp
theorem qc6(x:Co)(f d:Nat): ∀s,qpD (jJ x f d s) s fun i=>rdG x i f d:=by
 intro s
 induction s with
 |zero=>exact⟨fun i h=>absurd h (nnz i),fun j h=>absurd h (nnz j),fun j h=>absurd h (nnz j)⟩
 |succ s ih=>exact qmd ih
end RC
end
section
open Go Go.Proofs AF
def zP:List Nat:= []
def qqb:C:=
 ((C.ops [O1 3 (.box 0 26) 0,MC 6 (.str []),MC 7 (.bool false)]).seq ((C.ops [O1 9 (.fldA 3) 3,LD 10 9,MV 11 1,O2 12 (.idxA 1) 10 11,LD 13 12,MV 14 2,O2 15 (.idxA 1) 13 14,
 LD 16 15,MV 8 16]).seq (((C.ops [MV 17 8,BC 18 .lss 17 (i6 0)]).seq (C.cond (.t 18) ((C.ops [MC 6 (.str []),MC 7 (.bool false)]).seq C.ret) C.skip)).seq ((C.ops [O1 19 (.fldA 2)
 3,LD 20 19,MV 21 2,O2 22 (.idxA 1) 20 21,LD 23 22,MV 24 8,O2 25 (.idxA 6) 23 24,O1 26 (.fldA 0) 25,LD 27 26,MV 6 27,MC 7 (.bool true)]).seq
 C.ret))))
theorem qpf:qI Tryz.prog 300 28 1 [RV.tmp 6,RV.tmp 7] qqb:=fi Tryz.f300 [3] zP []
def qtC:C:=
 ((C.ops [O1 2 (.box 0 26) 0,MC 4 (.bool false)]).seq ((C.ops [O1 11 (.load (some 4)) 2,MV 12 1,ON 13 (.call 300 true) [.t 11,.t 12,.c (i6 0)],MV 10 13,O1 14 (.ext 0) 10,O1
 15 (.ext 1) 10,MV 5 14,MV 6 15]).seq (((C.ops [O1 16 (.fldA 1) 2,LD 17 16,O1 18 .len 17,MC 19 (i6 0)]).seq (C.block 0 ((C.ops [BI 20 .lss 19 18]).seq ((C.cond (.t 20) C.skip
 (C.exit 0)).seq ((C.block 1 ((C.ops [MV 21 19,MV 7 21]).seq ((C.ops [O1 23 (.load (some 4)) 2,MV 24 1,MV 25 7,ON 26 (.call 300 true) [.t 23,.t 24,.t 25],MV 22 26,O1 27
 (.ext 0) 22,O1 28 (.ext 1) 22,MV 8 27,MV 9 28]).seq ((C.ops [MV 29 6,O1 30 (.un UnOp.not) 29,MV 31 30,MG 32 31 false 9,P1 33 31 false (.un UnOp.not) 32,PT 34 31 33,MV 35
 34,MG 36 35 false 8,MG 37 35 false 5,P2 38 35 false (.bin .neq) 36 37,PT 39 35 38]).seq (C.cond (.t 39) ((C.ops [MC 4 (.bool false)]).seq C.ret) C.skip))))).seq (C.ops [BC 40
 .add 19 (i6 1),MV 19 40])))).loop)).seq ((C.ops [MC 4 (.bool true)]).seq
 C.ret))))
theorem quY:qI Tryz.prog 278 41 1 [RV.tmp 4] qtC:=fi Tryz.f278 [2] zP []
def qto:C:=
 ((C.ops [O1 1 (.box 0 26) 0,MC 2 .nilfn]).seq ((C.ops [O1 3 (.mkfn (Fn.func 277) 0) 1,MV 2 3]).seq
 C.ret))
theorem quI:qI Tryz.prog 233 4 1 [RV.tmp 2] qto:=fi Tryz.f233 [1] zP []
def qtB:C:=
 ((C.ops [MC 3 (i6 0)]).seq (C.block 0 (((C.ops [MV 5 3,O1 6 (.fldA 3) 1,LD 7 6,O1 8 .len 7,BI 9 .lss 5 8]).seq (C.cond (.t 9) C.skip (C.exit 0))).seq (C.block 1 ((C.ops [MV 10
 3,MV 4 10]).seq ((C.block 2 (((C.ops [MV 11 4,O1 12 (.fldA 3) 1,LD 13 12,O1 14 .len 13,BI 15 .lss 11 14,MV 16 15,P1 17 16 true (.load (some 4)) 1,MG 18 16 true 4,P2 19 16
 true (.call 278 true) 17 18,P1 20 16 true (.un UnOp.not) 19,PF 21 16 20]).seq (C.cond (.t 21) C.skip (C.exit 2))).seq (C.block 3 (C.ops [MV 22 4,BC 23 .add 22 (i6 1),MV 4
 23]))).loop).seq (((C.ops [MV 24 4,MV 25 3,BI 26 .gtr 24 25,MV 27 26,MG 28 27 true 0,MG 29 27 true 3,MG 30 27 true 4,PN 31 27 true .callv [.t 28,.t 29,.t 30],P1 32 27
 true (.un UnOp.not) 31,PF 33 27 32]).seq (C.cond (.t 33) C.ret C.skip)).seq (C.ops [MV 34 4,BC 35 .add 34 (i6 1),MV 3
 35])))))).loop))
theorem quX:qI Tryz.prog 277 36 0 [] qtB:=fi Tryz.f277 [] zP []
def qty:C:=
 ((C.ops [O1 4 (.box 0 26) 0,ON 8 (.nilo 1 1 9) []]).seq ((C.ops [ON 9 (.nilo 2 1 9) []]).seq (((C.ops [MV 13 1,MV 10 13]).seq (C.block 0 (((C.ops [MV 14 10,MV 15 2,BI 16 .lss
 14 15]).seq (C.cond (.t 16) C.skip (C.exit 0))).seq ((C.block 1 ((C.ops [O1 20 (.load (some 4)) 4,MV 21 10,MV 22 3,ON 23 (.call 300 true) [.t 20,.t 21,.t 22],MV 19 23,O1 24
 (.ext 0) 19,O1 25 (.ext 1) 19,MV 11 24,MV 12 25]).seq ((C.ops [MV 26 12]).seq (C.cond (.t 26) (C.ops [MV 27 9,MV 28 11,⟨some 29,none,.bslc 3 1 1 9 [.str []] [(0,1)],[.t
 28]⟩,O2 30 (.app 4 1 9 16) 27 29,MV 9 30]) C.skip)))).seq (C.ops [MV 17 10,BC 18 .add 17 (i6 1),MV 10 18]))).loop)).seq ((C.ops [MV 31 9,MV 8 31]).seq
 C.ret))))
theorem quU:qI Tryz.prog 274 32 5 [RV.tmp 8] qty:=fi Tryz.f274 [4,8,9,29,30] zP []
def qtz:C:=
 ((C.ops [O1 4 (.box 0 89) 1,O1 5 (.box 1 280) 2,MC 6 (i6 0)]).seq ((C.ops [MV 7 0,O2 8 (.mkfn (Fn.func 301) 0) 5 4,O2 9 (.call 127 true) 7 8,MV 6 9]).seq
 C.ret))
theorem quV:qI Tryz.prog 275 10 2 [RV.tmp 6] qtz:=fi Tryz.f275 [4,5] zP []
def qtH:C:=
 ((C.ops [O1 3 (.box 0 89) 0,MC 4 (.bool false)]).seq ((C.ops [LD 5 1,O1 6 (.load (some 2)) 2,O1 7 (.load (some 2)) 3,ON 8 .callv [.t 5,.t 6,.t 7],MV 4 8]).seq
 C.ret))
theorem qu4:qI Tryz.prog 301 9 1 [RV.tmp 4] qtH:=fi Tryz.f301 [3] zP []
def qtn:C:=
 ((C.ops [O1 3 (.box 0 26) 0,ON 6 (.nilo 1 2 89) []]).seq ((C.ops [ON 7 (.nilo 2 2 89) []]).seq (((C.ops [O1 11 (.fldA 1) 3,LD 12 11,O1 13 .len 12,MC 14 (i6 0)]).seq (C.block 0
 ((C.ops [BI 15 .lss 14 13]).seq ((C.cond (.t 15) C.skip (C.exit 0)).seq ((C.block 1 ((C.ops [MV 16 14,MV 8 16]).seq ((C.ops [O1 17 (.load (some 4)) 3,MV 18 1,MV 19 2,MV 20 8,
 ON 21 (.call 274 true) [.t 17,.t 18,.t 19,.t 20],MV 22 8,⟨some 23,none,.bslc 3 1 1 3 [i6 0] [(0,1)],[.t 22]⟩,⟨some 24,none,.build [.nl,.nl] [(0,1),(1,1)],[.t 21,
 .t 23]⟩,⟨some 9,none,.alloc 4 89 [.nl,.nl],[]⟩,ST 2 9 24]).seq ((C.ops [MV 25 7,O1 26 (.load (some 2)) 9,ON 27 (.call 275 true) [.t 25,.t 26,.c (.fn (Fn.func 276) []
 [])],MV 10 27]).seq (((C.ops [MV 28 10,BC 29 .lss 28 (i6 0)]).seq (C.cond (.t 29) ((C.ops [MV 30 7,O1 31 (.load (some 2)) 9,⟨some 32,none,.bslc 5 2 1 89 [.nl,.nl] [(0,2)],
 [.t 31]⟩,O2 33 (.app 6 2 89 48) 30 32,MV 7 33]).seq (C.exit 1)) C.skip)).seq (C.ops [MV 34 7,MV 35 10,MV 36 7,MV 37 10,O2 38 (.idxA 2) 36 37,O1 39 (.fldA 1) 38,LD 40 39,MV
 41 8,⟨some 42,none,.bslc 7 1 1 3 [i6 0] [(0,1)],[.t 41]⟩,O2 43 (.app 8 1 3 8) 40 42,O2 44 (.idxA 2) 34 35,O1 45 (.fldA 1) 44,ST 1 45 43])))))).seq (C.ops [BC 46 .add 14
 (i6 1),MV 14 46])))).loop)).seq ((C.ops [MV 47 7,MV 6 47]).seq
 C.ret))))
theorem quH:qI Tryz.prog 232 48 9 [RV.tmp 6] qtn:=fi Tryz.f232 [3,6,7,23,9,32,33,42,43] zP []
def qtA:C:=
 ((C.ops [O1 2 (.box 0 89) 0,O1 3 (.box 1 89) 1,MC 4 (.bool false)]).seq ((C.ops [O1 5 (.fldA 0) 2,LD 6 5,O1 7 (.fldA 0) 3,LD 8 7,O2 9 (.call 53 true) 6 8,MV 4 9]).seq
 C.ret))
theorem quW:qI Tryz.prog 276 10 2 [RV.tmp 4] qtA:=fi Tryz.f276 [2,3] zP []
def qtm:C:=
 ((C.ops [MC 4 (.bool false)]).seq ((C.ops [MV 5 0,MV 6 1,ON 7 (.call 272 true) [.t 5,.t 6,.c (.fn (Fn.func 273) [] [])],MV 4 7]).seq
 C.ret))
theorem quG:qI Tryz.prog 231 8 0 [RV.tmp 4] qtm:=fi Tryz.f231 [] zP []
def qp8:C:=
 ((C.ops [O1 2 (.box 0 89) 0,O1 3 (.box 1 89) 1,MC 4 (.bool false)]).seq ((C.ops [O1 5 (.fldA 0) 2,LD 6 5,O1 7 (.fldA 0) 3,LD 8 7,O2 9 (.call 53 true) 6 8,MV 10 9,P1 11 10
 true (.fldA 1) 2,P1 12 10 true (.load none) 11,P1 13 10 true (.fldA 1) 3,P1 14 10 true (.load none) 13,P2 15 10 true (.call 40 true) 12 14,PF 16 10 15,MV 4 16]).seq
 C.ret))
theorem qpc:qI Tryz.prog 273 17 2 [RV.tmp 4] qp8:=fi Tryz.f273 [2,3] zP []
def qtf:C:=
 ((C.ops [O1 2 (.box 0 26) 0,O1 3 (.box 1 27) 1,⟨some 4,none,.alloc 2 4 [.bool false],[]⟩]).seq ((C.ops [MC 5 (i6 (-1))]).seq (((C.ops [LD 10 3,O1 11 .len 10,MC 12 (i6
 0)]).seq (C.block 0 ((C.ops [BI 13 .lss 12 11]).seq ((C.cond (.t 13) C.skip (C.exit 0)).seq ((C.block 1 ((C.ops [O2 14 (.idxA 3) 10 12,O1 15 (.load (some 3)) 14,⟨some 7,none,
 .alloc 3 83 [i6 0,i6 0,.nl],[]⟩,ST 3 7 15]).seq (((C.ops [O1 16 (.fldA 0) 7,LD 17 16,MV 18 5,BI 19 .leq 17 18,MV 20 19,P1 21 20 false (.fldA 0) 7,P1 22 20 false (.load
 none) 21,PC 23 20 false (.bin .lss) 22 (i6 0),PT 24 20 23,MV 25 24,P1 26 25 false (.fldA 0) 7,P1 27 25 false (.load none) 26,P1 28 25 false (.fldA 1) 7,P1 29 25 false (.load
 none) 28,P2 30 25 false (.bin .geq) 27 29,PT 31 25 30,MV 32 31,P1 33 32 false (.fldA 1) 7,P1 34 32 false (.load none) 33,P1 35 32 false (.fldA 3) 2,P1 36 32 false (.load
 none) 35,P1 37 32 false .len 36,P2 38 32 false (.bin .gtr) 34 37,PT 39 32 38,MV 40 39,P1 41 40 false (.fldA 2) 7,P1 42 40 false (.load none) 41,P1 43 40 false (.load (some
 4)) 2,P1 44 40 false (.fldA 0) 7,P1 45 40 false (.load none) 44,P1 46 40 false (.fldA 1) 7,P1 47 40 false (.load none) 46,PN 48 40 false (.call 232 true) [.t 43,.t 45,.t
 47],P2 49 40 false (.call 231 true) 42 48,P1 50 40 false (.un UnOp.not) 49,PT 51 40 50]).seq (C.cond (.t 51) ((C.ops [⟨none,none,.store 1,[.t 4,.c (.bool false)]⟩]).seq
 C.ret) C.skip)).seq (C.ops [O1 52 (.fldA 1) 7,LD 53 52,MV 5 53])))).seq (C.ops [BC 54 .add 12 (i6 1),MV 12 54])))).loop)).seq (((C.ops [O1 55 (.load (some 4)) 2,O1 56 (.call
 233 true) 55]).seq (C.block 2 (C.range (.t 56) [57,58] ((C.ops [⟨some 8,none,.alloc 4 3 [i6 0],[]⟩,ST 1 8 57]).seq (C.ops [⟨some 9,none,.alloc 5 3 [i6 0],[]⟩,ST 1 9 58]))
 (C.block 3 ((C.ops [LD 59 3,O2 60 (.mkfn (Fn.func 234) 0) 8 9,O2 61 (.call 54 true) 59 60,O1 62 (.un UnOp.not) 61]).seq (C.cond (.t 62) ((C.ops [⟨none,none,.store 1,[.t 4,.c
 (.bool false)]⟩]).seq C.ret) C.skip)))))).seq ((C.ops [⟨none,none,.store 1,[.t 4,.c (.bool true)]⟩]).seq
 C.ret)))))
theorem quy:qI Tryz.prog 177 63 6 [RV.cell 4 none] qtf:=fi Tryz.f177 [2,3,4,7,8,9] zP []
def qp2:C:=
 ((C.ops [O1 3 (.box 0 83) 0,MC 4 (.bool false)]).seq ((C.ops [O1 5 (.fldA 0) 3,LD 6 5,LD 7 1,BI 8 .leq 6 7,MV 9 8,P1 10 9 true (.load none) 2,P1 11 9 true (.fldA 1) 3,P1 12
 9 true (.load none) 11,P2 13 9 true (.bin .leq) 10 12,PF 14 9 13,MV 4 14]).seq
 C.ret))
theorem qo6:qI Tryz.prog 234 15 1 [RV.tmp 4] qp2:=fi Tryz.f234 [3] zP []
def qpU:C:=
 ((C.ops [O1 2 (.box 0 26) 0,MC 4 (i6 0)]).seq (((C.ops [O1 5 (.load (some 4)) 2,O1 6 (.call 81 true) 5,BC 7 .neq 6 (i6 0)]).seq (C.cond (.t 7) ((C.ops [MC 4 (i6 1)]).seq C.ret)
 C.skip)).seq (((C.ops [O1 8 (.load (some 4)) 2,MV 9 1,O2 10 (.call 177 true) 8 9,O1 11 (.un UnOp.not) 10]).seq (C.cond (.t 11) ((C.ops [MC 4 (i6 20)]).seq C.ret) C.skip)).seq
 ((C.ops [MC 4 (i6 0)]).seq
 C.ret))))
theorem qoW:qI Tryz.prog 111 12 1 [RV.tmp 4] qpU:=fi Tryz.f111 [2] zP []
def qpV:C:=
 ((C.ops [O1 3 (.box 0 3) 1,MC 4 (i6 0),MC 5 (i6 0)]).seq (((C.ops [LD 6 3,BC 7 .lss 6 (i6 0)]).seq (C.cond (.t 7) ((C.ops [MC 4 (i6 0),MC 5 (i6 2)]).seq C.ret) C.skip)).seq
 ((C.ops [MV 8 0,O1 9 (.mkfn (Fn.func 178) 0) 3,O2 10 (.call 128 true) 8 9,MV 4 10,MC 5 (i6 0)]).seq
 C.ret)))
theorem qoX:qI Tryz.prog 113 11 1 [RV.tmp 4,RV.tmp 5] qpV:=fi Tryz.f113 [3] zP []
def qp0:C:=
 ((C.ops [O1 2 (.box 0 83) 0,MC 3 (.bool false)]).seq ((C.ops [O1 4 (.fldA 0) 2,LD 5 4,LD 6 1,BI 7 .leq 5 6,MV 8 7,P1 9 8 true (.load none) 1,P1 10 8 true (.fldA 1) 2,P1 11
 8 true (.load none) 10,P2 12 8 true (.bin .lss) 9 11,PF 13 8 12,MV 3 13]).seq
 C.ret))
theorem qo4:qI Tryz.prog 178 14 1 [RV.tmp 3] qp0:=fi Tryz.f178 [2] zP []
end
section
open Go Go.Proofs AF
def ja:List Nat:= []
def qtp:C:=
 ((C.ops [O1 4 (.box 0 26) 0,ON 8 (.nilo 1 1 9) []]).seq ((C.ops [⟨some 12,none,.bslc 2 1 0 9 [.str []] [],[]⟩,MV 9 12]).seq (((C.ops [MV 13 1,MV 10 13]).seq (C.block 0
 (((C.ops [MV 14 10,MV 15 2,BI 16 .lss 14 15]).seq (C.cond (.t 16) C.skip (C.exit 0))).seq ((C.block 1 ((C.ops [O1 19 (.fldA 3) 4,LD 20 19,MV 21 10,O2 22 (.idxA 1) 20 21,LD 23
 22,MV 24 3,O2 25 (.idxA 1) 23 24,LD 26 25,MV 11 26]).seq ((C.ops [MV 27 11,BC 28 .geq 27 (i6 0)]).seq (C.cond (.t 28) (C.ops [MV 29 9,O1 30 (.fldA 2) 4,LD 31 30,MV 32 3,O2
 33 (.idxA 1) 31 32,LD 34 33,MV 35 11,O2 36 (.idxA 6) 34 35,O1 37 (.fldA 0) 36,LD 38 37,⟨some 39,none,.bslc 3 1 1 9 [.str []] [(0,1)],[.t 38]⟩,O2 40 (.app 4 1 9 16) 29
 39,MV 9 40]) C.skip)))).seq (C.ops [MV 17 10,BC 18 .add 17 (i6 1),MV 10 18]))).loop)).seq ((C.ops [MV 41 9,MV 8 41]).seq
 C.ret))))
theorem quJ:qI Tryz.prog 236 42 5 [RV.tmp 8] qtp:=fi Tryz.f236 [4,8,12,39,40] ja []
def qtg:C:=
 ((C.ops [O1 3 (.box 0 26) 0,ON 6 (.nilo 1 2 89) []]).seq ((C.ops [⟨some 12,none,.bslc 2 2 0 89 [.nl,.nl] [],[]⟩,MV 7 12]).seq (((C.ops [MC 8 (i6 0)]).seq (C.block 0 (((C.ops
 [MV 13 8,O1 14 (.fldA 1) 3,LD 15 14,O1 16 .len 15,BI 17 .lss 13 16]).seq (C.cond (.t 17) C.skip (C.exit 0))).seq ((C.block 1 ((C.ops [O1 20 (.load (some 4)) 3,MV 21 1,MV 22
 2,MV 23 8,ON 24 (.call 236 true) [.t 20,.t 21,.t 22,.t 23],MV 9 24]).seq ((C.ops [MC 10 (.bool false)]).seq (((C.ops [MC 11 (i6 0)]).seq (C.block 2 (((C.ops [MV 25 11,MV 26
 7,O1 27 .len 26,BI 28 .lss 25 27,MV 29 28,MG 30 29 true 10,P1 31 29 true (.un UnOp.not) 30,PF 32 29 31]).seq (C.cond (.t 32) C.skip (C.exit 2))).seq ((C.block 3 ((C.ops [MV
 35 7,MV 36 11,O2 37 (.idxA 2) 35 36,O1 38 (.fldA 0) 37,LD 39 38,MV 40 9,O2 41 (.call 103 true) 39 40]).seq (C.cond (.t 41) ((C.ops [MV 42 7,MV 43 11,MV 44 7,MV 45 11,O2
 46 (.idxA 2) 44 45,O1 47 (.fldA 1) 46,LD 48 47,MV 49 8,⟨some 50,none,.bslc 3 1 1 3 [i6 0] [(0,1)],[.t 49]⟩,O2 51 (.app 4 1 3 8) 48 50,O2 52 (.idxA 2) 42 43,O1 53 (.fldA
 1) 52,ST 1 53 51]).seq (C.ops [MC 10 (.bool true)])) C.skip))).seq (C.ops [MV 33 11,BC 34 .add 33 (i6 1),MV 11 34]))).loop)).seq ((C.ops [MV 54 10,O1 55 (.un UnOp.not) 54]).seq
 (C.cond (.t 55) (C.ops [MV 56 7,MV 57 9,MV 58 8,⟨some 59,none,.bslc 5 1 1 3 [i6 0] [(0,1)],[.t 58]⟩,⟨some 60,none,.build [.nl,.nl] [(0,1),(1,1)],[.t 57,.t 59]⟩,
 ⟨some 61,none,.bslc 6 2 1 89 [.nl,.nl] [(0,2)],[.t 60]⟩,O2 62 (.app 7 2 89 48) 56 61,MV 7 62]) C.skip)))))).seq (C.ops [MV 18 8,BC 19 .add 18 (i6 1),MV 8 19]))).loop)).seq
 ((C.ops [MV 63 7,MV 6 63]).seq
 C.ret))))
theorem quz:qI Tryz.prog 180 64 8 [RV.tmp 6] qtg:=fi Tryz.f180 [3,6,12,50,51,59,61,62] ja []
def qp1:C:=
 ((C.ops [MC 4 (.bool false)]).seq (((C.ops [MV 6 0,O1 7 .len 6,MV 8 1,O1 9 .len 8,BI 10 .neq 7 9]).seq (C.cond (.t 10) ((C.ops [MC 4 (.bool false)]).seq C.ret) C.skip)).seq
 (((C.ops [MC 5 (i6 0)]).seq (C.block 0 (((C.ops [MV 11 5,MV 12 0,O1 13 .len 12,BI 14 .lss 11 13]).seq (C.cond (.t 14) C.skip (C.exit 0))).seq ((C.block 1 ((C.ops [MV 17 0,MV 18
 5,O2 19 (.idxA 2) 17 18,O1 20 (.fldA 0) 19,LD 21 20,MV 22 1,MV 23 5,O2 24 (.idxA 2) 22 23,O1 25 (.fldA 0) 24,LD 26 25,O2 27 (.call 103 true) 21 26,O1 28 (.un UnOp.not)
 27,MV 29 28,MG 30 29 false 0,MG 31 29 false 5,P2 32 29 false (.idxA 2) 30 31,P1 33 29 false (.fldA 1) 32,P1 34 29 false (.load none) 33,MG 35 29 false 1,MG 36 29 false 5,
 P2 37 29 false (.idxA 2) 35 36,P1 38 29 false (.fldA 1) 37,P1 39 29 false (.load none) 38,P2 40 29 false (.call 235 true) 34 39,P1 41 29 false (.un UnOp.not) 40,PT 42 29
 41]).seq (C.cond (.t 42) ((C.ops [MC 4 (.bool false)]).seq C.ret) C.skip))).seq (C.ops [MV 15 5,BC 16 .add 15 (i6 1),MV 5 16]))).loop)).seq ((C.ops [MC 4 (.bool true)]).seq
 C.ret))))
theorem qo5:qI Tryz.prog 179 43 0 [RV.tmp 4] qp1:=fi Tryz.f179 [] ja []
def qth:C:=
 ((C.ops [O1 2 (.box 0 26) 0,MC 4 (.bool false)]).seq (((C.ops [MC 5 (i6 0)]).seq (C.block 0 (((C.ops [MV 6 5,MV 7 1,O1 8 .len 7,BI 9 .lss 6 8]).seq (C.cond (.t 9) C.skip
 (C.exit 0))).seq ((C.block 1 ((C.ops [MV 12 1,MV 13 5,O2 14 (.idxA 1) 12 13,LD 15 14,BC 16 .lss 15 (i6 0),MV 17 16,P1 18 17 false (.fldA 2) 2,P1 19 17 false (.load none) 18,
 MG 20 17 false 5,P2 21 17 false (.idxA 1) 19 20,P1 22 17 false (.load none) 21,MG 23 17 false 1,MG 24 17 false 5,P2 25 17 false (.idxA 1) 23 24,P1 26 17 false (.load none)
 25,P2 27 17 false (.idxA 6) 22 26,P1 28 17 false (.fldA 0) 27,P1 29 17 false (.load none) 28,P1 30 17 false (.fldA 2) 2,P1 31 17 false (.load none) 30,PC 32 17 false (.idxA
 1) 31 (i6 0),P1 33 17 false (.load none) 32,MG 34 17 false 1,PC 35 17 false (.idxA 1) 34 (i6 0),P1 36 17 false (.load none) 35,P2 37 17 false (.idxA 6) 33 36,P1 38 17 false
 (.fldA 0) 37,P1 39 17 false (.load none) 38,P2 40 17 false (.bin .neq) 29 39,PT 41 17 40]).seq (C.cond (.t 41) ((C.ops [MC 4 (.bool false)]).seq C.ret) C.skip))).seq (C.ops [MV
 10 5,BC 11 .add 10 (i6 1),MV 5 11]))).loop)).seq ((C.ops [MC 4 (.bool true)]).seq
 C.ret)))
theorem quA:qI Tryz.prog 181 42 1 [RV.tmp 4] qth:=fi Tryz.f181 [2] ja []
def qpX:C:=
 ((C.ops [O1 2 (.box 0 26) 0,MC 4 (i6 0)]).seq (((C.ops [O1 10 (.load (some 4)) 2,O1 11 (.call 82 true) 10,BC 12 .neq 11 (i6 0)]).seq (C.cond (.t 12) ((C.ops [MC 4 (i6 1)]).seq
 C.ret) C.skip)).seq ((C.ops [O1 13 (.fldA 3) 2,LD 14 13,O1 15 .len 14,⟨some 16,none,.mkslc 1 1 4 [.bool false] 1,[.t 15,.t 15]⟩,MV 5 16]).seq (((C.ops [MC 6 (i6 0)]).seq
 (C.block 0 (((C.ops [MV 17 6,MV 18 1,O1 19 .len 18,BI 20 .lss 17 19]).seq (C.cond (.t 20) C.skip (C.exit 0))).seq ((C.block 1 ((C.ops [MV 23 1,MV 24 6,O2 25 (.idxA 3) 23 24,
 O1 26 (.load (some 3)) 25,⟨some 7,none,.alloc 2 83 [i6 0,i6 0,.nl],[]⟩,ST 3 7 26]).seq (((C.ops [O1 27 (.fldA 0) 7,LD 28 27,BC 29 .lss 28 (i6 0),MV 30 29,P1 31 30 false
 (.fldA 0) 7,P1 32 30 false (.load none) 31,P1 33 30 false (.fldA 1) 7,P1 34 30 false (.load none) 33,P2 35 30 false (.bin .geq) 32 34,PT 36 30 35,MV 37 36,P1 38 37 false
 (.fldA 1) 7,P1 39 37 false (.load none) 38,P1 40 37 false (.fldA 3) 2,P1 41 37 false (.load none) 40,P1 42 37 false .len 41,P2 43 37 false (.bin .gtr) 39 42,PT 44 37 43,MV
 45 44,MG 46 45 false 6,PC 47 45 false (.bin .gtr) 46 (i6 0),MG 48 45 false 47,P1 49 48 true (.fldA 0) 7,P1 50 48 true (.load none) 49,MG 51 48 true 1,MG 52 48 true 6,PC 53
 48 true (.bin .sub) 52 (i6 1),P2 54 48 true (.idxA 3) 51 53,P1 55 48 true (.fldA 1) 54,P1 56 48 true (.load none) 55,P2 57 48 true (.bin .leq) 50 56,QF 58 45 false 48 57,PT
 59 45 58,MV 60 59,P1 61 60 false (.fldA 2) 7,P1 62 60 false (.load none) 61,P1 63 60 false (.load (some 4)) 2,P1 64 60 false (.fldA 0) 7,P1 65 60 false (.load none) 64,P1 66
 60 false (.fldA 1) 7,P1 67 60 false (.load none) 66,PN 68 60 false (.call 180 true) [.t 63,.t 65,.t 67],P2 69 60 false (.call 179 true) 62 68,P1 70 60 false (.un UnOp.not)
 69,PT 71 60 70]).seq (C.cond (.t 71) ((C.ops [MC 4 (i6 20)]).seq C.ret) C.skip)).seq ((C.ops [O1 72 (.fldA 0) 7,LD 73 72,MV 8 73]).seq (C.block 2 (((C.ops [MV 74 8,O1 75 (.fldA
 1) 7,LD 76 75,BI 77 .lss 74 76]).seq (C.cond (.t 77) C.skip (C.exit 2))).seq ((C.block 3 (C.ops [MV 80 5,MV 81 8,O2 82 (.idxA 1) 80 81,⟨none,none,.store 1,[.t 82,.c (.bool
 true)]⟩])).seq (C.ops [MV 78 8,BC 79 .add 78 (i6 1),MV 8 79]))).loop))))).seq (C.ops [MV 21 6,BC 22 .add 21 (i6 1),MV 6 22]))).loop)).seq (((C.ops [MC 9 (i6 0)]).seq (C.block 4
 (((C.ops [MV 83 9,O1 84 (.fldA 3) 2,LD 85 84,O1 86 .len 85,BI 87 .lss 83 86]).seq (C.cond (.t 87) C.skip (C.exit 4))).seq ((C.block 5 ((C.ops [MV 90 5,MV 91 9,O2 92 (.idxA 1)
 90 91,LD 93 92,O1 94 (.un UnOp.not) 93,MV 95 94,P1 96 95 true (.load (some 4)) 2,P1 97 95 true (.fldA 3) 2,P1 98 95 true (.load none) 97,MG 99 95 true 9,P2 100 95 true
 (.idxA 1) 98 99,P1 101 95 true (.load none) 100,P2 102 95 true (.call 181 true) 96 101,P1 103 95 true (.un UnOp.not) 102,PF 104 95 103]).seq (C.cond (.t 104) ((C.ops [MC 4 (i6
 20)]).seq C.ret) C.skip))).seq (C.ops [MV 88 9,BC 89 .add 88 (i6 1),MV 9 89]))).loop)).seq ((C.ops [MC 4 (i6 0)]).seq
 C.ret))))))
theorem qoZ:qI Tryz.prog 115 105 3 [RV.tmp 4] qpX:=fi Tryz.f115 [2,16,7] ja []
def qpY:C:=
 ((C.ops [MC 4 (i6 0),MC 5 (i6 0)]).seq (((C.ops [MV 7 1,BC 8 .lss 7 (i6 0)]).seq (C.cond (.t 8) ((C.ops [MC 4 (i6 0),MC 5 (i6 2)]).seq C.ret) C.skip)).seq (((C.ops [MC 6 (i6
 0)]).seq (C.block 0 (((C.ops [MV 9 6,MV 10 0,O1 11 .len 10,BI 12 .lss 9 11]).seq (C.cond (.t 12) C.skip (C.exit 0))).seq ((C.block 1 ((C.ops [MV 15 1,MV 16 0,MV 17 6,O2 18
 (.idxA 3) 16 17,O1 19 (.fldA 0) 18,LD 20 19,BI 21 .geq 15 20,MV 22 21,MG 23 22 true 1,MG 24 22 true 0,MG 25 22 true 6,P2 26 22 true (.idxA 3) 24 25,P1 27 22 true (.fldA 1)
 26,P1 28 22 true (.load none) 27,P2 29 22 true (.bin .lss) 23 28,PF 30 22 29]).seq (C.cond (.t 30) ((C.ops [MV 31 6,MV 4 31,MC 5 (i6 0)]).seq C.ret) C.skip))).seq (C.ops [MV
 13 6,BC 14 .add 13 (i6 1),MV 6 14]))).loop)).seq ((C.ops [MC 4 (i6 (-1)),MC 5 (i6 0)]).seq
 C.ret))))
theorem qo0:qI Tryz.prog 116 32 0 [RV.tmp 4,RV.tmp 5] qpY:=fi Tryz.f116 [] ja []
def qyU:C:=
 ((C.ops [MC 2 (.bool false)]).seq (((C.ops [MC 3 (i6 0)]).seq (C.block 0 (((C.ops [MV 5 3,MV 6 0,O1 7 .len 6,BI 8 .lss 5 7]).seq (C.cond (.t 8) C.skip (C.exit 0))).seq ((C.block
 1 (((C.ops [MV 11 0,MV 12 3,O2 13 (.idxA 3) 11 12,O1 14 (.fldA 2) 13,LD 15 14,O1 16 .len 15,BC 17 .gtr 16 (i6 6)]).seq (C.cond (.t 17) ((C.ops [MC 2 (.bool true)]).seq C.ret)
 C.skip)).seq ((C.ops [MC 4 (i6 0)]).seq (C.block 2 (((C.ops [MV 18 4,MV 19 0,MV 20 3,O2 21 (.idxA 3) 19 20,O1 22 (.fldA 2) 21,LD 23 22,O1 24 .len 23,BI 25 .lss 18 24]).seq
 (C.cond (.t 25) C.skip (C.exit 2))).seq ((C.block 3 ((C.ops [MV 28 0,MV 29 3,O2 30 (.idxA 3) 28 29,O1 31 (.fldA 2) 30,LD 32 31,MV 33 4,O2 34 (.idxA 2) 32 33,O1 35 (.fldA 1)
 34,LD 36 35,O1 37 .len 36,BC 38 .gtr 37 (i6 8),MV 39 38,MG 40 39 false 0,MG 41 39 false 3,P2 42 39 false (.idxA 3) 40 41,P1 43 39 false (.fldA 2) 42,P1 44 39 false (.load
 none) 43,MG 45 39 false 4,P2 46 39 false (.idxA 2) 44 45,P1 47 39 false (.fldA 0) 46,P1 48 39 false (.load none) 47,PC 49 39 false (.call 70 true) 48 (i6 8),PT 50 39 49]).seq
 (C.cond (.t 50) ((C.ops [MC 2 (.bool true)]).seq C.ret) C.skip))).seq (C.ops [MV 26 4,BC 27 .add 26 (i6 1),MV 4 27]))).loop)))).seq (C.ops [MV 9 3,BC 10 .add 9 (i6 1),MV 3
 10]))).loop)).seq ((C.ops [MV 51 0,O1 52 .len 51,BC 53 .gtr 52 (i6 12),MV 2 53]).seq
 C.ret)))
theorem qxO:qI Tryz.prog 78 54 0 [RV.tmp 2] qyU:=fi Tryz.f78 [] ja []
def qyT:C:=
 ((C.ops [O1 1 (.box 0 26) 0,MC 2 (.bool false)]).seq (((C.ops [MC 3 (i6 0)]).seq (C.block 0 (((C.ops [MV 4 3,O1 5 (.fldA 3) 1,LD 6 5,O1 7 .len 6,BI 8 .lss 4 7]).seq (C.cond
 (.t 8) C.skip (C.exit 0))).seq ((C.block 1 ((C.ops [O1 11 (.fldA 3) 1,LD 12 11,MV 13 3,O2 14 (.idxA 1) 12 13,LD 15 14,O1 16 .len 15,BC 17 .gtr 16 (i6 36)]).seq (C.cond (.t
 17) ((C.ops [MC 2 (.bool true)]).seq C.ret) C.skip))).seq (C.ops [MV 9 3,BC 10 .add 9 (i6 1),MV 3 10]))).loop)).seq ((C.ops [O1 18 (.fldA 2) 1,LD 19 18,O1 20 (.call 149 true)
 19,MV 21 20,P1 22 21 false (.fldA 3) 1,P1 23 21 false (.load none) 22,P1 24 21 false .len 23,PC 25 21 false (.bin .gtr) 24 (i6 24),PT 26 21 25,MV 27 26,P1 28 27 false
 (.fldA 1) 1,P1 29 27 false (.load none) 28,P1 30 27 false .len 29,PC 31 27 false (.bin .gtr) 30 (i6 36),PT 32 27 31,MV 33 32,P1 34 33 false (.fldA 0) 1,P1 35 33 false (.load
 none) 34,P1 36 33 false (.fldA 1) 1,P1 37 33 false (.load none) 36,P2 38 33 false (.call 150 true) 35 37,PT 39 33 38,MV 2 39]).seq
 C.ret)))
theorem qxN:qI Tryz.prog 77 40 1 [RV.tmp 2] qyT:=fi Tryz.f77 [1] ja []
def qs6:C:=
 ((C.ops [MC 2 (.bool false)]).seq ((C.ops [MC 3 (i6 1)]).seq (((C.ops [MC 4 (i6 0)]).seq (C.block 0 (((C.ops [MV 7 4,MV 8 0,O1 9 .len 8,BI 10 .lss 7 9]).seq (C.cond (.t 10)
 C.skip (C.exit 0))).seq ((C.block 1 (((C.ops [MV 13 0,MV 14 4,O2 15 (.idxA 1) 13 14,LD 16 15,O1 17 .len 16,BC 18 .gtr 17 (i6 6),MV 19 18,MG 20 19 false 4,PC 21 19 false
 (.bin .geq) 20 (i6 4),MG 22 19 false 21,MG 23 22 true 0,MG 24 22 true 4,P2 25 22 true (.idxA 1) 23 24,P1 26 22 true (.load none) 25,P1 27 22 true .len 26,PC 28 22 true (.bin
 .gtr) 27 (i6 1),QF 29 19 false 22 28,PT 30 19 29]).seq (C.cond (.t 30) ((C.ops [MC 2 (.bool true)]).seq C.ret) C.skip)).seq (((C.ops [MV 31 4,BC 32 .lss 31 (i6 4)]).seq (C.cond
 (.t 32) (C.ops [MV 33 3,MV 34 0,MV 35 4,O2 36 (.idxA 1) 34 35,LD 37 36,O1 38 .len 37,BC 39 .add 38 (i6 1),BI 40 .mul 33 39,MV 3 40]) C.skip)).seq ((C.ops [MC 5 (i6 0)]).seq
 (C.block 2 (((C.ops [MV 41 5,MV 42 0,MV 43 4,O2 44 (.idxA 1) 42 43,LD 45 44,O1 46 .len 45,BI 47 .lss 41 46]).seq (C.cond (.t 47) C.skip (C.exit 2))).seq ((C.block 3 ((C.ops
 [MV 50 0,MV 51 4,O2 52 (.idxA 1) 50 51,LD 53 52,MV 54 5,O2 55 (.idxA 6) 53 54,O1 56 (.load (some 6)) 55,⟨some 6,none,.alloc 0 124 [.str [],.str [],.str [],i6 0,i6 0,
 .str []],[]⟩,ST 6 6 56]).seq ((C.ops [O1 57 (.fldA 0) 6,LD 58 57,O1 59 .slen 58,BC 60 .gtr 59 (i6 12),MV 61 60,P1 62 61 false (.fldA 1) 6,P1 63 61 false (.load none) 62,P1
 64 61 false .slen 63,PC 65 61 false (.bin .gtr) 64 (i6 12),PT 66 61 65,MV 67 66,P1 68 67 false (.fldA 2) 6,P1 69 67 false (.fldA 0) 68,P1 70 67 false (.load none) 69,P1 71
 67 false .slen 70,PC 72 67 false (.bin .gtr) 71 (i6 20),PT 73 67 72,MV 74 73,P1 75 74 false (.fldA 5) 6,P1 76 74 false (.load none) 75,P1 77 74 false .slen 76,PC 78 74 false
 (.bin .gtr) 77 (i6 20),PT 79 74 78]).seq (C.cond (.t 79) ((C.ops [MC 2 (.bool true)]).seq C.ret) C.skip)))).seq (C.ops [MV 48 5,BC 49 .add 48 (i6 1),MV 5 49]))).loop))))).seq
 (C.ops [MV 11 4,BC 12 .add 11 (i6 1),MV 4 12]))).loop)).seq ((C.ops [MV 80 3,BC 81 .gtr 80 (i6 400),MV 82 81,MG 83 82 false 0,P1 84 82 false .len 83,PC 85 82 false (.bin
 .gtr) 84 (i6 6),MG 86 82 false 85,MG 87 86 true 0,P1 88 86 true .len 87,PC 89 86 true (.bin .leq) 88 (i6 32),QF 90 82 false 86 89,PT 91 82 90,MV 92 91,MG 93 92 false 0,P1
 94 92 false .len 93,PC 95 92 false (.bin .gtr) 94 (i6 34),PT 96 92 95,MV 2 96]).seq
 C.ret))))
theorem quq:qI Tryz.prog 149 97 1 [RV.tmp 2] qs6:=fi Tryz.f149 [6] ja []
def qs8:C:=
 ((C.ops [MC 4 (.bool false)]).seq (((C.ops [MC 5 (i6 0)]).seq (C.block 0 (((C.ops [MV 6 5,MV 7 1,O1 8 .len 7,BI 9 .lss 6 8]).seq (C.cond (.t 9) C.skip (C.exit 0))).seq ((C.block
 1 ((C.ops [MV 12 1,MV 13 5,O2 14 (.idxA 1) 12 13,LD 15 14,O1 16 .slen 15,BC 17 .gtr 16 (i6 20)]).seq (C.cond (.t 17) ((C.ops [MC 4 (.bool true)]).seq C.ret) C.skip))).seq
 (C.ops [MV 10 5,BC 11 .add 10 (i6 1),MV 5 11]))).loop)).seq ((C.ops [MV 18 0,O1 19 .slen 18,BC 20 .gtr 19 (i6 20),MV 4 20]).seq
 C.ret)))
theorem qur:qI Tryz.prog 150 21 0 [RV.tmp 4] qs8:=fi Tryz.f150 [] ja []
def qyV:C:=
 ((C.ops [MC 2 (.bool false)]).seq (((C.ops [MC 3 (i6 0)]).seq (C.block 0 (((C.ops [MV 4 3,MV 5 0,O1 6 .len 5,BI 7 .lss 4 6]).seq (C.cond (.t 7) C.skip (C.exit 0))).seq ((C.block
 1 ((C.ops [MV 10 0,MV 11 3,O2 12 (.idxA 7) 10 11,O1 13 (.fldA 0) 12,LD 14 13,O1 15 .slen 14,BC 16 .gtr 15 (i6 66),MV 17 16,MG 18 17 false 0,MG 19 17 false 3,P2 20 17
 false (.idxA 7) 18 19,P1 21 17 false (.fldA 6) 20,P1 22 17 false (.load none) 21,P1 23 17 false .slen 22,PC 24 17 false (.bin .gtr) 23 (i6 20),PT 25 17 24]).seq (C.cond (.t
 25) ((C.ops [MC 2 (.bool true)]).seq C.ret) C.skip))).seq (C.ops [MV 8 3,BC 9 .add 8 (i6 1),MV 3 9]))).loop)).seq ((C.ops [MV 26 0,O1 27 .len 26,BC 28 .gtr 27 (i6 12),MV 2
 28]).seq
 C.ret)))
theorem qxP:qI Tryz.prog 79 29 0 [RV.tmp 2] qyV:=fi Tryz.f79 [] ja []
def qxi:C:=
 ((C.ops [O1 3 (.box 0 26) 0,MC 6 (i6 0)]).seq (((C.ops [O1 17 (.load (some 4)) 3,MV 18 1,O2 19 (.call 115 true) 17 18,MV 7 19]).seq ((C.ops [MV 20 7,BC 21 .neq 20 (i6 0)]).seq
 (C.cond (.t 21) ((C.ops [MV 22 7,MV 6 22]).seq C.ret) C.skip))).seq (((C.ops [MC 8 (i6 0)]).seq (C.block 0 (((C.ops [MV 23 8,MV 24 2,O1 25 .len 24,BI 26 .lss 23 25]).seq
 (C.cond (.t 26) C.skip (C.exit 0))).seq ((C.block 1 ((C.ops [MV 29 2,MV 30 8,O2 31 (.idxA 7) 29 30,O1 32 (.load (some 7)) 31,⟨some 9,none,.alloc 1 64 [.str [],i6 0,i6 0,i6
 0,.bool false,.bool false,.str []],[]⟩,ST 7 9 32]).seq (((C.ops [O1 33 (.fldA 0) 9,LD 34 33,BC 35 .eql 34 (.str []),MV 36 35,P1 37 36 false (.fldA 0) 9,P1 38 36 false
 (.load none) 37,P1 39 36 false .slen 38,PC 40 36 false (.bin .gtr) 39 (i6 64),PT 41 36 40]).seq (C.cond (.t 41) ((C.ops [MC 6 (i6 11)]).seq C.ret) C.skip)).seq (((C.ops [O1 42
 (.fldA 1) 9,LD 43 42,BC 44 .lss 43 (i6 0),MV 45 44,P1 46 45 false (.fldA 1) 9,P1 47 45 false (.load none) 46,P1 48 45 false (.fldA 3) 3,P1 49 45 false (.load none) 48,P1 50
 45 false .len 49,P2 51 45 false (.bin .geq) 47 50,PT 52 45 51,MV 53 52,MG 54 53 false 8,PC 55 53 false (.bin .gtr) 54 (i6 0),MG 56 53 false 55,P1 57 56 true (.fldA 1) 9,P1
 58 56 true (.load none) 57,MG 59 56 true 2,MG 60 56 true 8,PC 61 56 true (.bin .sub) 60 (i6 1),P2 62 56 true (.idxA 7) 59 61,P1 63 56 true (.fldA 1) 62,P1 64 56 true (.load
 none) 63,P2 65 56 true (.bin .lss) 58 64,QF 66 53 false 56 65,PT 67 53 66]).seq (C.cond (.t 67) ((C.ops [MC 6 (i6 19)]).seq C.ret) C.skip)).seq (((C.ops [MV 69 1,O1 70 (.fldA
 1) 9,LD 71 70,O2 72 (.call 116 true) 69 71,MV 68 72,O1 73 (.ext 0) 68,O1 74 (.ext 1) 68,MV 10 73,MV 11 74]).seq ((C.ops [O1 75 (.fldA 2) 9,LD 76 75,MV 77 10,BI 78 .neq 76
 77]).seq (C.cond (.t 78) ((C.ops [MC 6 (i6 20)]).seq C.ret) C.skip))).seq ((C.ops [O1 79 (.fldA 3) 9,LD 80 79,BC 81 .lss 80 (i6 (-1)),MV 82 81,P1 83 82 false (.fldA 3) 9,P1 84
 82 false (.load none) 83,PC 85 82 false (.bin .geq) 84 (i6 0),MG 86 82 false 85,P1 87 86 true (.fldA 2) 9,P1 88 86 true (.load none) 87,PC 89 86 true (.bin .lss) 88 (i6 0),QF
 90 82 false 86 89,PT 91 82 90,MV 92 91,MG 93 92 false 8,PC 94 92 false (.bin .gtr) 93 (i6 0),MG 95 92 false 94,P1 96 95 true (.fldA 2) 9,P1 97 95 true (.load none) 96,PC 98
 95 true (.bin .geq) 97 (i6 0),QF 99 92 false 95 98,MG 100 92 false 99,MG 101 100 true 2,MG 102 100 true 8,PC 103 100 true (.bin .sub) 102 (i6 1),P2 104 100 true (.idxA 7) 101
 103,P1 105 100 true (.fldA 2) 104,P1 106 100 true (.load none) 105,P1 107 100 true (.fldA 2) 9,P1 108 100 true (.load none) 107,P2 109 100 true (.bin .eql) 106 108,QF 110 92
 false 100 109,MG 111 92 false 110,MG 112 111 true 2,MG 113 111 true 8,PC 114 111 true (.bin .sub) 113 (i6 1),P2 115 111 true (.idxA 7) 112 114,P1 116 111 true (.fldA 3) 115,
 P1 117 111 true (.load none) 116,P1 118 111 true (.fldA 3) 9,P1 119 111 true (.load none) 118,P2 120 111 true (.bin .neq) 117 119,QF 121 92 false 111 120,PT 122 92 121]).seq
 (C.cond (.t 122) ((C.ops [MC 6 (i6 2)]).seq C.ret) C.skip))))))).seq (C.ops [MV 27 8,BC 28 .add 27 (i6 1),MV 8 28]))).loop)).seq (((C.ops [MC 12 (i6 0)]).seq (C.block 2 (((C.ops
 [MV 123 12,O1 124 (.fldA 3) 3,LD 125 124,O1 126 .len 125,BI 127 .lss 123 126]).seq (C.cond (.t 127) C.skip (C.exit 2))).seq ((C.block 3 (((C.ops [MV 131 1,MV 132 12,O2 133
 (.call 116 true) 131 132,MV 130 133,O1 134 (.ext 0) 130,O1 135 (.ext 1) 130,MV 13 134,MV 14 135]).seq ((C.ops [MV 136 13,BC 137 .geq 136 (i6 0)]).seq (C.cond (.t 137) (C.exit
 3) C.skip))).seq ((C.ops [MC 15 (i6 0)]).seq (((C.ops [MC 16 (i6 0)]).seq (C.block 4 (((C.ops [MV 138 16,MV 139 2,O1 140 .len 139,BI 141 .lss 138 140]).seq (C.cond (.t 141)
 C.skip (C.exit 4))).seq ((C.block 5 (((C.ops [MV 144 2,MV 145 16,O2 146 (.idxA 7) 144 145,O1 147 (.fldA 1) 146,LD 148 147,MV 149 12,BI 150 .neq 148 149]).seq (C.cond (.t 150)
 (C.exit 5) C.skip)).seq ((C.ops [MV 151 15,BC 152 .add 151 (i6 1),MV 15 152]).seq ((C.ops [MV 153 2,MV 154 16,O2 155 (.idxA 7) 153 154,O1 156 (.fldA 0) 155,LD 157 156,O1 158
 (.fldA 2) 3,LD 159 158,OC 160 (.idxA 1) 159 (i6 0),LD 161 160,O1 162 (.fldA 3) 3,LD 163 162,MV 164 12,O2 165 (.idxA 1) 163 164,LD 166 165,OC 167 (.idxA 1) 166 (i6 0),LD
 168 167,O2 169 (.idxA 6) 161 168,O1 170 (.fldA 0) 169,LD 171 170,BI 172 .neq 157 171]).seq (C.cond (.t 172) ((C.ops [MC 6 (i6 9)]).seq C.ret) C.skip))))).seq (C.ops [MV 142 16,
 BC 143 .add 142 (i6 1),MV 16 143]))).loop)).seq ((C.ops [MV 173 15,BC 174 .neq 173 (i6 1)]).seq (C.cond (.t 174) ((C.ops [MC 6 (i6 9)]).seq C.ret) C.skip)))))).seq (C.ops [MV 128
 12,BC 129 .add 128 (i6 1),MV 12 129]))).loop)).seq ((C.ops [MC 6 (i6 0)]).seq
 C.ret)))))
theorem qvb:qI Tryz.prog 39 175 2 [RV.tmp 6] qxi:=fi Tryz.f39 [3,9] ja []
def qpW:C:=
 ((C.ops [O1 3 (.box 0 64) 0,MC 4 (.bool false)]).seq ((C.ops [O1 5 (.fldA 1) 3,LD 6 5,LD 7 1,BI 8 .eql 6 7,MV 9 8,P1 10 9 true (.fldA 0) 3,P1 11 9 true (.load none) 10,P1
 12 9 true (.load none) 2,P2 13 9 true (.bin .eql) 11 12,PF 14 9 13,MV 4 14]).seq
 C.ret))
theorem qoY:qI Tryz.prog 114 15 1 [RV.tmp 4] qpW:=fi Tryz.f114 [3] ja []
def jv:C:=
 ((C.ops [O1 5 (.box 0 26) 0,O1 7 (.box 1 64) 2,O1 8 (.box 2 64) 3,MC 10 (i6 0)]).seq ((C.block 0 ((C.ops [O1 14 (.fldA 0) 7,LD 15 14,BC 16 .eql 15 (.str []),MV 17 16,P1 18
 17 false (.fldA 0) 7,P1 19 17 false (.load none) 18,P1 20 17 false .slen 19,PC 21 17 false (.bin .gtr) 20 (i6 64),PT 22 17 21,MV 13 22]).seq (C.cond (.t 13) ((C.ops [MC 10 (i6
 11)]).seq C.ret) ((C.ops [O1 24 (.fldA 1) 7,LD 25 24,BC 26 .lss 25 (i6 0),MV 27 26,P1 28 27 false (.fldA 1) 7,P1 29 27 false (.load none) 28,P1 30 27 false (.fldA 3) 5,P1 31
 27 false (.load none) 30,P1 32 27 false .len 31,P2 33 27 false (.bin .geq) 29 32,PT 34 27 33,MV 35 34,MG 36 35 false 4,P1 37 35 false (.un UnOp.not) 36,MG 38 35 false 37,P1
 39 38 true (.fldA 1) 7,P1 40 38 true (.load none) 39,P1 41 38 true (.fldA 1) 8,P1 42 38 true (.load none) 41,P2 43 38 true (.bin .lss) 40 42,QF 44 35 false 38 43,PT 45 35 44,
 MV 23 45]).seq (C.cond (.t 23) ((C.ops [MC 10 (i6 19)]).seq C.ret) ((C.ops [O1 47 (.fldA 2) 7,LD 48 47,BC 49 .lss 48 (i6 (-1)),MV 50 49,P1 51 50 false (.fldA 2) 7,P1 52 50
 false (.load none) 51,MG 53 50 false 1,P1 54 50 false .len 53,P2 55 50 false (.bin .geq) 52 54,PT 56 50 55,MV 46 56]).seq (C.cond (.t 46) ((C.ops [MC 10 (i6 20)]).seq C.ret)
 C.skip))))))).seq (((C.ops [MV 58 1,O1 59 (.fldA 1) 7,LD 60 59,O2 61 (.call 113 true) 58 60,MV 57 61,O1 62 (.ext 0) 57,O1 63 (.ext 1) 57,MV 11 62,MV 12 63]).seq ((C.ops [MV
 64 11,O1 65 (.fldA 2) 7,LD 66 65,BI 67 .neq 64 66]).seq (C.cond (.t 67) ((C.ops [MC 10 (i6 20)]).seq C.ret) C.skip))).seq (((C.ops [O1 68 (.fldA 3) 7,LD 69 68,BC 70 .lss 69
 (i6 (-1)),MV 71 70,P1 72 71 false (.fldA 2) 7,P1 73 71 false (.load none) 72,PC 74 71 false (.bin .lss) 73 (i6 0),MG 75 71 false 74,P1 76 75 true (.fldA 3) 7,P1 77 75 true
 (.load none) 76,PC 78 75 true (.bin .neq) 77 (i6 (-1)),QF 79 71 false 75 78,PT 80 71 79,MV 81 80,MG 82 81 false 4,P1 83 81 false (.un UnOp.not) 82,MG 84 81 false 83,P1 85
 84 true (.fldA 2) 7,P1 86 84 true (.load none) 85,PC 87 84 true (.bin .geq) 86 (i6 0),QF 88 81 false 84 87,MG 89 81 false 88,P1 90 89 true (.fldA 2) 7,P1 91 89 true (.load
 none) 90,P1 92 89 true (.fldA 2) 8,P1 93 89 true (.load none) 92,P2 94 89 true (.bin .eql) 91 93,QF 95 81 false 89 94,MG 96 81 false 95,P1 97 96 true (.fldA 3) 7,P1 98 96
 true (.load none) 97,P1 99 96 true (.fldA 3) 8,P1 100 96 true (.load none) 99,P2 101 96 true (.bin .neq) 98 100,QF 102 81 false 96 101,PT 103 81 102]).seq (C.cond (.t 103)
 ((C.ops [MC 10 (i6 2)]).seq C.ret) C.skip)).seq ((C.ops [MC 10 (i6 0)]).seq
 C.ret)))))
theorem zC:qI Tryz.prog 112 104 3 [RV.tmp 10] jv:=fi Tryz.f112 [5,7,8] ja []
end
section
open Go Go.Proofs AF HY LN
namespace RC
theorem qxF(u:Un)(c:Int)(h:List AObj):ACalls Tryz.prog 178 [.agg (unC u),.ip [.int .i64 c]] h (.bool (decide (u.frm≤c)&&decide (c<u.to))) h:=by
 by_cases g:u.frm≤c
 ·have k1:(u.frm≤c)=True:=eqt g;rw[dqt g,Bool.true_and];refine acO qo4 ?_;simp (disch:=omega) only[qp0,unC,k1,go_sem]
  repeat' first
   |(apply qa;exact rvk;simp only[go_sem];exact qi)
   |with_reducible apply aiA
  all_goals try exact clz
 ·have k1:(u.frm≤c)=False:=eqf g;rw[dqf g,Bool.false_and];refine acO qo4 ?_;simp (disch:=omega) only[qp0,unC,k1,go_sem]
  repeat' first
   |(apply qa;exact rvk;simp only[go_sem];exact qi)
   |with_reducible apply aiA
  all_goals try exact clz
theorem qzI(l:List Un)(c:Int)(k v:Nat)(h:List AObj)(hk:getO k h=some (.mem v 3 [.int .i64 c]))(hl:l.length≤1000000000):
  ACalls Tryz.prog 128 [qz l,.fn (.func 178) [] [.op k v 0]] h (.int .i64 (fnU l c)) h:=by
 have hc:=qS hk;unfold qz fnU;refine qeJ qo2 l.length (fun j=>unC (l.getD j default)) (fun j=> .agg (unC (l.getD j default))) _ [] [.op k v 0] _ h (fun i _=>⟨rfl,by simp[jE,unC],rfl,rfl,rfl⟩) (fun i _=> ?_) om;refine ACalls.borrow ?_ rfl;have e:([AV.agg (unC (l.getD i default))]++ [AV.op k v 0]).map (rei (fun _=>true) h 8)= [.agg (unC (l.getD i default)),.ip [.int .i64 c]]:=by
  simp only[lca,lna,List.map_cons,List.map_nil,rei_op,if_true,hc,ipOf_some,List.drop_zero,rei_agg];rfl
 rw[lna,e];exact qxF _ c _
def fnR(l:List Un)(c:Int):Int:=if c<0 then 0 else fnU l c
def fnE(c:Int):Int:=if c<0 then 2 else 0
theorem qy1(l:List Un)(c:Int)(h:List AObj)(hl:l.length≤1000000000):ACalls Tryz.prog 113 [qz l,.int .i64 c] h (.tup [.int .i64 (fnR l c),.int .i64 (fnE c)]) h:=by
 unfold fnR fnE
 by_cases g:c<0
 ·have k1:(c<0)=True:=eqt g;rw[ipo g,ipo g];refine acO qoX ?_;simp (disch:=omega) only[qpV,k1,go_sem]
  repeat' first
   |(apply qa;exact rvk;simp only[go_sem];exact qi)
   |with_reducible apply aiA
  all_goals try exact clz
 ·have k1:(c<0)=False:=eqf g;rw[ine g,ine g];have c1:=qzI l c h.length 1 (h++ [.mem 1 3 [.int .i64 c]]) (by rw[getO_app0];rfl) hl;refine acO qoX ?_;simp (disch:=omega) only[qpV,k1,go_sem]
  repeat' first
   |(refine cA (c1) flk ?_;simp (disch:=omega) only[go_sem])
   |(apply qa;exact rvk;simp only[go_sem];exact qi)
   |with_reducible apply aiA
  all_goals try exact clz
theorem qy2(l:List Un)(c:Int)(h:List AObj)(hl:l.length≤1000000000):ACalls Tryz.prog 116 [qz l,.int .i64 c] h (.tup [.int .i64 (fnR l c),.int .i64 (fnE c)]) h:=by
 unfold fnR fnE
 by_cases g:c<0
 ·have k1:(c<0)=True:=eqt g;rw[ipo g,ipo g];refine acO qo0 ?_;simp (disch:=omega) only[qpY,k1,go_sem]
  repeat' first
   |(apply qc;exact rvk;simp only[go_sem];exact qi)
 have k1:(c<0)=False:=eqf g;rw[ine g,ine g];obtain⟨R,hR⟩: ∃R,R=fnU l c:=⟨_,rfl⟩
 rw[←hR];unfold fnU at hR;refine acO qo0 ?_;simp (disch:=omega) only[qpY,k1,qz,go_sem];refine qn (T:=fun i:Nat=>qM 32 [(0,qz l),(1,.int .i64 c),(6,.int .i64 i)]) (H:=fun _=>h) (inv:=fun i=>i≤l.length∧ ∀j,j<i→(decide ((l.getD j default).frm≤c)&&decide (c<(l.getD j default).to))=false) (m:=fun i=>l.length-i) 0 ⟨nzl _,fun j hj=>absurd hj (nnz j)⟩ (Wk.temps ?_) ?_
 ·(simp only[qz,go_sem,qh,qe,qb,qg];try (repeat' first|(with_reducible apply aiA)|(apply qf;omega)|(apply qd;rfl)|exact qi))
 rintro i ⟨i1,i2⟩ K hK
 by_cases hi:i<l.length
 ·have k2:((i:Int)<l.length)=True:=eqt om;have hH:=fun h=>kl (p:=fun i=>decide ((l.getD i default).frm≤c)&&decide (c<(l.getD i default).to)) hi i2 h
  have hS: ∀h,(decide ((l.getD i default).frm≤c)&&decide (c<(l.getD i default).to))=false→ ∀j,j<i+1→(decide ((l.getD j default).frm≤c)&&decide (c<(l.getD j default).to))=false:=fun (_:True) hx j hj=>by
   by_cases e:j=i
   ·subst e;exact hx
   ·exact i2 j om
  have hS:=hS trivial;obtain⟨u,hu⟩: ∃u,u=l.getD i default:=⟨_,rfl⟩
  have eu:=hu.symm;simp only[eu]at hH hS
  by_cases g1:u.frm≤c
  ·have k3:(u.frm≤c)=True:=eqt g1
   by_cases g2:c<u.to
   ·have k4:(c<u.to)=True:=eqt g2;have hV:R=(i:Int):=by rw[hR];exact hH (by rw[dqt g1,dqt g2];rfl)
    rw[hV];simp (disch:=omega) only[qz,unC,k2,k3,k4,eu,go_sem]
    repeat' first
     |(apply qc;exact rvk;simp only[go_sem];exact qi)
     |with_reducible apply aiA
    all_goals try exact clz
   ·have k4:(c<u.to)=False:=eqf g2;simp (disch:=omega) only[qz,unC,k2,k3,k4,eu,go_sem]
    repeat' first
     |with_reducible apply aiA
    all_goals try exact clz
    refine hK _ _ (i+1) ⟨hi,hS (by rw[dqf g2,Bool.and_false])⟩ om (Wk.temps ?_)
    (simp only[qz,go_sem,qh,qe,qb,qg];try (repeat' first|(with_reducible apply aiA)|(apply qf;omega)|(apply qd;rfl)|exact qi))
  ·have k3:(u.frm≤c)=False:=eqf g1;simp (disch:=omega) only[qz,unC,k2,k3,eu,go_sem]
   repeat' first
    |(apply qc;exact rvk;simp only[go_sem])
    |with_reducible first|intro _|apply aiA
   all_goals try exact clz
   refine hK _ _ (i+1) ⟨hi,hS (by rw[dqf g1,Bool.false_and])⟩ om (Wk.temps ?_)
   (simp only[qz,go_sem,qh,qe,qb,qg];try (repeat' first|(with_reducible apply aiA)|(apply qf;omega)|(apply qd;rfl)|exact qi))
 ·have k2:((i:Int)<l.length)=False:=eqf om;have hV:R= -1:=by rw[hR];exact qaA (fun j hj=>i2 j om)
  rw[hV];simp (disch:=omega) only[qz,k2,go_sem]
  repeat' first
   |(apply qc;exact rvk;simp only[go_sem];exact qi)
theorem qAh(x:Co)(l:List Un)(w bef:Wd)(first:Bool)(h:List AObj)(hl:l.length≤1000000000)(hc:x.col.length≤1000000000)(hw:w.text.length≤1000000000):
  ACalls Tryz.prog 112 [.agg (coC x),qz l,.agg (wdC w),.agg (wdC bef),.bool first] h (.int .i64 (wdE x l w bef first)) h:=by
 obtain⟨R,hR⟩: ∃R,R=wdE x l w bef first:=⟨_,rfl⟩
 rw[←hR];unfold wdE at hR;have cF:=fun h=>qy1 l w.col h hl
 by_cases g0:w.text= []
 ·have k0:(w.text= [])=True:=eqt g0;rw[ipo (.inl g0)]at hR;rw[hR];refine acO zC ?_;simp (disch:=omega) only[jv,coC,wdC,qz,k0,go_sem]
  repeat' first
   |(apply qa;exact rvk;simp only[go_sem];exact qi)
 have k0:(w.text= [])=False:=eqf g0;simp only[k0,false_or]at hR;obtain⟨p,hp⟩: ∃p,p=fnU l w.col:=⟨_,rfl⟩
 rw[←hp]at hR;cases first with
 |true=>
  simp only[Bool.true_eq_false,false_and,or_false]at hR
  by_cases gB:64<w.text.length
  ·have kB:((64:Int)<w.text.length)=True:=eqt (by first|exact gB|omega);have hV:R=11:=by rw[hR];(repeat' split)<;>first|rfl|(exfalso;omega)
   rw[hV];refine acO zC ?_;simp (disch:=omega) only[jv,coC,wdC,qz,qp,k0,kB,go_sem]
   repeat' first
    |(apply qa;exact rvk;simp only[go_sem];exact qi)
  ·have kB:((64:Int)<w.text.length)=False:=eqf (by first|exact gB|omega)
   by_cases gC:w.col<0
   ·have kC:(w.col<0)=True:=eqt (by first|exact gC|omega);have hV:R=19:=by rw[hR];(repeat' split)<;>first|rfl|(exfalso;omega)
    rw[hV];refine acO zC ?_;simp (disch:=omega) only[jv,coC,wdC,qz,qp,k0,kB,kC,go_sem]
    repeat' first
     |(apply qa;exact rvk;simp only[go_sem];exact qi)
   ·have kC:(w.col<0)=False:=eqf (by first|exact gC|omega);have eF:fnR l w.col=p:=by unfold fnR;rw[ine gC,hp]
    have eE:fnE w.col=0:=ine gC;simp only[eF,eE]at cF
    by_cases gD:(x.col.length:Int)≤w.col
    ·have kD:((x.col.length:Int)≤w.col)=True:=eqt (by first|exact gD|omega);have hV:R=19:=by rw[hR];(repeat' split)<;>first|rfl|(exfalso;omega)
     rw[hV];refine acO zC ?_;simp (disch:=omega) only[jv,coC,wdC,qz,qp,k0,kB,kC,kD,go_sem]
     repeat' first
      |(apply qa;exact rvk;simp only[go_sem];exact qi)
      |with_reducible apply aiA
     all_goals try exact clz
    ·have kD:((x.col.length:Int)≤w.col)=False:=eqf (by first|exact gD|omega)
     by_cases gG:w.unit< -1
     ·have kG:(w.unit< -1)=True:=eqt (by first|exact gG|omega);have hV:R=20:=by rw[hR];(repeat' split)<;>first|rfl|(exfalso;omega)
      rw[hV];refine acO zC ?_;simp (disch:=omega) only[jv,coC,wdC,qz,qp,k0,kB,kC,kD,kG,go_sem]
      repeat' first
       |(apply qa;exact rvk;simp only[go_sem];first|exact qi|apply qf)
       |with_reducible first|intro _|apply aiA
      all_goals try exact clz
     ·have kG:(w.unit< -1)=False:=eqf (by first|exact gG|omega)
      by_cases gH:(l.length:Int)≤w.unit
      ·have kH:((l.length:Int)≤w.unit)=True:=eqt (by first|exact gH|omega);have hV:R=20:=by rw[hR];(repeat' split)<;>first|rfl|(exfalso;omega)
       rw[hV];refine acO zC ?_;simp (disch:=omega) only[jv,coC,wdC,qz,qp,k0,kB,kC,kD,kG,kH,go_sem]
       repeat' first
        |(apply qa;exact rvk;simp only[go_sem];first|exact qi|apply qf)
        |with_reducible first|intro _|apply aiA
       all_goals try exact clz
      ·have kH:((l.length:Int)≤w.unit)=False:=eqf (by first|exact gH|omega)
       by_cases gI:p=w.unit
       ·have kI:(p=w.unit)=True:=eqt (by first|exact gI|omega)
        by_cases gJ:w.dec< -1
        ·have kJ:(w.dec< -1)=True:=eqt (by first|exact gJ|omega);have hV:R=2:=by rw[hR];(repeat' split)<;>first|rfl|(exfalso;omega)
         rw[hV];refine acO zC ?_;simp (disch:=omega) only[jv,coC,wdC,qz,qp,k0,kB,kC,kD,kG,kH,go_sem]
         repeat' first
          |(refine cA (cF _) flk ?_;simp (disch:=omega) only[kI,kJ,go_sem])
          |(apply qa;exact rvk;simp only[go_sem];first|exact qi|apply qf)
          |with_reducible first|intro _|apply aiA
         all_goals try exact clz
        ·have kJ:(w.dec< -1)=False:=eqf (by first|exact gJ|omega)
         by_cases gK:w.unit<0
         ·have kK:(w.unit<0)=True:=eqt (by first|exact gK|omega);have kKb:(0≤w.unit)=False:=eqf (by first|exact gK|omega)
          by_cases gL:w.dec= -1
          ·have kL:(w.dec= -1)=True:=eqt (by first|exact gL|omega);have hV:R=0:=by rw[hR];(repeat' split)<;>first|rfl|(exfalso;omega)
           rw[hV];refine acO zC ?_;simp (disch:=omega) only[jv,coC,wdC,qz,qp,k0,kB,kC,kD,kG,kH,go_sem]
           repeat' first
            |(refine cA (cF _) flk ?_;simp (disch:=omega) only[kI,kJ,kK,kKb,kL,go_sem])
            |(apply qa;exact rvk;simp only[go_sem];first|exact qi|apply qf)
            |with_reducible first|intro _|apply aiA
           all_goals try exact clz
          ·have kL:(w.dec= -1)=False:=eqf (by first|exact gL|omega);have hV:R=2:=by rw[hR];(repeat' split)<;>first|rfl|(exfalso;omega)
           rw[hV];refine acO zC ?_;simp (disch:=omega) only[jv,coC,wdC,qz,qp,k0,kB,kC,kD,kG,kH,go_sem]
           repeat' first
            |(refine cA (cF _) flk ?_;simp (disch:=omega) only[kI,kJ,kK,kKb,kL,go_sem])
            |(apply qa;exact rvk;simp only[go_sem];first|exact qi|apply qf)
            |with_reducible first|intro _|apply aiA
           all_goals try exact clz
         ·have kK:(w.unit<0)=False:=eqf (by first|exact gK|omega);have kKb:(0≤w.unit)=True:=eqt (by first|exact gK|omega);have hV:R=0:=by rw[hR];(repeat' split)<;>first|rfl|(exfalso;omega)
          rw[hV];refine acO zC ?_;simp (disch:=omega) only[jv,coC,wdC,qz,qp,k0,kB,kC,kD,kG,kH,go_sem]
          repeat' first
           |(refine cA (cF _) flk ?_;simp (disch:=omega) only[kI,kJ,kK,kKb,go_sem])
           |(apply qa;exact rvk;simp only[go_sem];first|exact qi|apply qf)
           |with_reducible first|intro _|apply aiA
          all_goals try exact clz
       ·have kI:(p=w.unit)=False:=eqf (by first|exact gI|omega);have hV:R=20:=by rw[hR];(repeat' split)<;>first|rfl|(exfalso;omega)
        rw[hV];refine acO zC ?_;simp (disch:=omega) only[jv,coC,wdC,qz,qp,k0,kB,kC,kD,kG,kH,go_sem]
        repeat' first
         |(refine cA (cF _) flk ?_;simp (disch:=omega) only[kI,go_sem])
         |(apply qa;exact rvk;simp only[go_sem];first|exact qi|apply qf)
         |with_reducible first|intro _|apply aiA
        all_goals try exact clz
 |false=>
  simp only[true_and]at hR
  by_cases gB:64<w.text.length
  ·have kB:((64:Int)<w.text.length)=True:=eqt (by first|exact gB|omega);have hV:R=11:=by rw[hR];(repeat' split)<;>first|rfl|(exfalso;omega)
   rw[hV];refine acO zC ?_;simp (disch:=omega) only[jv,coC,wdC,qz,qp,k0,kB,go_sem]
   repeat' first
    |(apply qa;exact rvk;simp only[go_sem];exact qi)
  ·have kB:((64:Int)<w.text.length)=False:=eqf (by first|exact gB|omega)
   by_cases gC:w.col<0
   ·have kC:(w.col<0)=True:=eqt (by first|exact gC|omega);have hV:R=19:=by rw[hR];(repeat' split)<;>first|rfl|(exfalso;omega)
    rw[hV];refine acO zC ?_;simp (disch:=omega) only[jv,coC,wdC,qz,qp,k0,kB,kC,go_sem]
    repeat' first
     |(apply qa;exact rvk;simp only[go_sem];exact qi)
   ·have kC:(w.col<0)=False:=eqf (by first|exact gC|omega);have eF:fnR l w.col=p:=by unfold fnR;rw[ine gC,hp]
    have eE:fnE w.col=0:=ine gC;simp only[eF,eE]at cF
    by_cases gD:(x.col.length:Int)≤w.col
    ·have kD:((x.col.length:Int)≤w.col)=True:=eqt (by first|exact gD|omega);have hV:R=19:=by rw[hR];(repeat' split)<;>first|rfl|(exfalso;omega)
     rw[hV];refine acO zC ?_;simp (disch:=omega) only[jv,coC,wdC,qz,qp,k0,kB,kC,kD,go_sem]
     repeat' first
      |(apply qa;exact rvk;simp only[go_sem];exact qi)
      |with_reducible apply aiA
     all_goals try exact clz
    ·have kD:((x.col.length:Int)≤w.col)=False:=eqf (by first|exact gD|omega)
     by_cases gF:w.col<bef.col
     ·have kF:(w.col<bef.col)=True:=eqt (by first|exact gF|omega);have hV:R=19:=by rw[hR];(repeat' split)<;>first|rfl|(exfalso;omega)
      rw[hV];refine acO zC ?_;simp (disch:=omega) only[jv,coC,wdC,qz,qp,k0,kB,kC,kD,kF,go_sem]
      repeat' first
       |(apply qa;exact rvk;simp only[go_sem];exact qi)
       |with_reducible apply aiA
      all_goals try exact clz
     ·have kF:(w.col<bef.col)=False:=eqf (by first|exact gF|omega)
      by_cases gG:w.unit< -1
      ·have kG:(w.unit< -1)=True:=eqt (by first|exact gG|omega);have hV:R=20:=by rw[hR];(repeat' split)<;>first|rfl|(exfalso;omega)
       rw[hV];refine acO zC ?_;simp (disch:=omega) only[jv,coC,wdC,qz,qp,k0,kB,kC,kD,kF,kG,go_sem]
       repeat' first
        |(apply qa;exact rvk;simp only[go_sem];exact qi)
        |with_reducible apply aiA
       all_goals try exact clz
      ·have kG:(w.unit< -1)=False:=eqf (by first|exact gG|omega)
       by_cases gH:(l.length:Int)≤w.unit
       ·have kH:((l.length:Int)≤w.unit)=True:=eqt (by first|exact gH|omega);have hV:R=20:=by rw[hR];(repeat' split)<;>first|rfl|(exfalso;omega)
        rw[hV];refine acO zC ?_;simp (disch:=omega) only[jv,coC,wdC,qz,qp,k0,kB,kC,kD,kF,kG,kH,go_sem]
        repeat' first
         |(apply qa;exact rvk;simp only[go_sem];exact qi)
         |with_reducible apply aiA
        all_goals try exact clz
       ·have kH:((l.length:Int)≤w.unit)=False:=eqf (by first|exact gH|omega)
        by_cases gI:p=w.unit
        ·have kI:(p=w.unit)=True:=eqt (by first|exact gI|omega)
         by_cases gJ:w.dec< -1
         ·have kJ:(w.dec< -1)=True:=eqt (by first|exact gJ|omega);have hV:R=2:=by rw[hR];(repeat' split)<;>first|rfl|(exfalso;omega)
          rw[hV];refine acO zC ?_;simp (disch:=omega) only[jv,coC,wdC,qz,qp,k0,kB,kC,kD,kF,kG,kH,go_sem]
          repeat' first
           |(refine cA (cF _) flk ?_;simp (disch:=omega) only[kI,kJ,go_sem])
           |(apply qa;exact rvk;simp only[go_sem];exact qi)
           |with_reducible apply aiA
          all_goals try exact clz
         ·have kJ:(w.dec< -1)=False:=eqf (by first|exact gJ|omega)
          by_cases gK:w.unit<0
          ·have kK:(w.unit<0)=True:=eqt (by first|exact gK|omega);have kKb:(0≤w.unit)=False:=eqf (by first|exact gK|omega)
           by_cases gL:w.dec= -1
           ·have kL:(w.dec= -1)=True:=eqt (by first|exact gL|omega);have hV:R=0:=by rw[hR];(repeat' split)<;>first|rfl|(exfalso;omega)
            rw[hV];refine acO zC ?_;simp (disch:=omega) only[jv,coC,wdC,qz,qp,k0,kB,kC,kD,kF,kG,kH,go_sem]
            repeat' first
             |(refine cA (cF _) flk ?_;simp (disch:=omega) only[kI,kJ,kK,kKb,kL,go_sem])
             |(apply qa;exact rvk;simp only[go_sem];first|exact qi|apply qf)
             |with_reducible first|intro _|apply aiA
            all_goals try exact clz
           ·have kL:(w.dec= -1)=False:=eqf (by first|exact gL|omega);have hV:R=2:=by rw[hR];(repeat' split)<;>first|rfl|(exfalso;omega)
            rw[hV];refine acO zC ?_;simp (disch:=omega) only[jv,coC,wdC,qz,qp,k0,kB,kC,kD,kF,kG,kH,go_sem]
            repeat' first
             |(refine cA (cF _) flk ?_;simp (disch:=omega) only[kI,kJ,kK,kKb,kL,go_sem])
             |(apply qa;exact rvk;simp only[go_sem];exact qi)
             |with_reducible apply aiA
            all_goals try exact clz
          ·have kK:(w.unit<0)=False:=eqf (by first|exact gK|omega);have kKb:(0≤w.unit)=True:=eqt (by first|exact gK|omega)
           by_cases gO:w.unit=bef.unit
           ·have kO:(w.unit=bef.unit)=True:=eqt (by first|exact gO|omega)
            by_cases gP:w.dec=bef.dec
            ·have kP:(w.dec=bef.dec)=True:=eqt (by first|exact gP|omega);have hV:R=0:=by rw[hR];(repeat' split)<;>first|rfl|(exfalso;omega)
             rw[hV];refine acO zC ?_;simp (disch:=omega) only[jv,coC,wdC,qz,qp,k0,kB,kC,kD,kF,kG,kH,go_sem]
             repeat' first
              |(refine cA (cF _) flk ?_;simp (disch:=omega) only[kI,kJ,kK,kKb,kO,kP,go_sem])
              |(apply qa;exact rvk;simp only[go_sem];first|exact qi|apply qf)
              |with_reducible first|intro _|apply aiA
             all_goals try exact clz
            ·have kP:(w.dec=bef.dec)=False:=eqf (by first|exact gP|omega);have hV:R=2:=by rw[hR];(repeat' split)<;>first|rfl|(exfalso;omega)
             rw[hV];refine acO zC ?_;simp (disch:=omega) only[jv,coC,wdC,qz,qp,k0,kB,kC,kD,kF,kG,kH,go_sem]
             repeat' first
              |(refine cA (cF _) flk ?_;simp (disch:=omega) only[kI,kJ,kK,kKb,kO,kP,go_sem])
              |(apply qa;exact rvk;simp only[go_sem];first|exact qi|apply qf)
              |with_reducible first|intro _|apply aiA
             all_goals try exact clz
           ·have kO:(w.unit=bef.unit)=False:=eqf (by first|exact gO|omega);have hV:R=0:=by rw[hR];(repeat' split)<;>first|rfl|(exfalso;omega)
            rw[hV];refine acO zC ?_;simp (disch:=omega) only[jv,coC,wdC,qz,qp,k0,kB,kC,kD,kF,kG,kH,go_sem]
            repeat' first
             |(refine cA (cF _) flk ?_;simp (disch:=omega) only[kI,kJ,kK,kKb,kO,go_sem])
             |(apply qa;exact rvk;simp only[go_sem];first|exact qi|apply qf)
             |with_reducible first|intro _|apply aiA
            all_goals try exact clz
        ·have kI:(p=w.unit)=False:=eqf (by first|exact gI|omega);have hV:R=20:=by rw[hR];(repeat' split)<;>first|rfl|(exfalso;omega)
         rw[hV];refine acO zC ?_;simp (disch:=omega) only[jv,coC,wdC,qz,qp,k0,kB,kC,kD,kF,kG,kH,go_sem]
         repeat' first
          |(refine cA (cF _) flk ?_;simp (disch:=omega) only[kI,go_sem])
          |(apply qa;exact rvk;simp only[go_sem];exact qi)
          |with_reducible apply aiA
         all_goals try exact clz
section
variable {x : Co} {k s : Nat}
theorem qxq(h:List AObj)(ho:CoOk x)(hk:k<x.col.length)(hs:s<x.sig.length):ACalls Tryz.prog 300 [.agg (coC x),.int .i64 (k:Int),.int .i64 (s:Int)] h (.tup [.str ((clT x k s).getD []),.bool (clT x k s).isSome]) h:=by
 have hcl:=ho.cl k hk;have hce:=ho.ce k hk s hs;have htn:=ho.tn;unfold clT;obtain⟨c,hc⟩: ∃c,c=x.col.getD k []:=⟨_,rfl⟩
 have ec:=hc.symm;rw[ec]at hcl hce ⊢;obtain⟨t,ht⟩: ∃t,t=c.getD s 0:=⟨_,rfl⟩
 have et:=ht.symm;rw[et]at hce ⊢;obtain⟨l,hl⟩: ∃l,l=x.tok.getD s []:=⟨_,rfl⟩
 have el:=hl.symm;rw[el]at hce ⊢;have k0:(0≤(k:Int))=True:=eqt om;have k1:((k:Int)<x.col.length)=True:=eqt om;have k2:((s:Int)<c.length)=True:=eqt om;have k3:((s:Int)<x.tok.length)=True:=eqt om;have k4:(0≤(s:Int))=True:=eqt om
 by_cases g:t<0
 ·have k5:(t<0)=True:=eqt g;rw[ipo g];refine acO qpf ?_;simp (disch:=omega) only[qqb,coC,qp,qq,k0,k1,k2,k4,k5,ec,et,go_sem]
  repeat' first
   |(apply qa;exact rvk;simp only[go_sem];exact qi)
   |with_reducible apply aiA
  all_goals try exact clz
 ·have k5:(t<0)=False:=eqf g;rw[ine g];have k6:(t<l.length)=True:=eqt (by rcases hce with e|e;omega;omega);have k7:(0≤t)=True:=eqt om;obtain⟨w,hw⟩: ∃w,w=l.getD t.toNat default:=⟨_,rfl⟩
  have ew:=hw.symm;rw[ew];refine acO qpf ?_;simp (disch:=omega) only[qqb,coC,qp,qq,qm,zM,tkC,k0,k1,k2,k3,k4,k5,k6,k7,ec,et,el,ew,go_sem]
  repeat' first
   |(apply qa;exact rvk;simp only[go_sem];exact qi)
   |with_reducible apply aiA
  all_goals try exact clz
theorem cmP(h:List AObj)(ho:CoOk x)(hk:k<x.col.length):ACalls Tryz.prog 278 [.agg (coC x),.int .i64 (k:Int)] h (.bool (cmB x k)) h:=by
 have hsg:=ho.sg;obtain⟨R,hR⟩: ∃R,R=cmB x k:=⟨_,rfl⟩
 rw[←hR];unfold cmB at hR;have c0:=fun h=>qxq (x:=x) (k:=k) (s:=0) h ho hk hsg.1
 obtain⟨o0,ho0⟩: ∃o0,o0=clT x k 0:=⟨_,rfl⟩
 rw[←ho0]at hR c0;have ez:((0:Nat):Int)=0:=rfl;rw[ez]at c0;have zl: ∀g,valL g .len [strs x.sig]= .int .i64 x.sig.length:=fun _=>rfl
 have zo: ∀g,okL g .len [strs x.sig]=True:=fun _=>eqt trivial
 unfold coC at c0;refine acO quY ?_;simp (disch:=omega) only[qtC,coC,go_sem]
 repeat' first
  |(refine cA (c0 _) flk ?_;simp (disch:=omega) only[zl,zo,go_sem])
  |with_reducible apply aiA
 all_goals try exact clz
 refine qn (T:=fun i:Nat=>qM 41 [(1,.int .i64 (k:Int)),(2,.op h.length 1 0),(5,.str (o0.getD [])),(6,.bool o0.isSome),(18,.int .i64 x.sig.length),(19,.int .i64 i)]) (H:=fun _=>h++ [.mem 1 26 (coC x)])
  (inv:=fun i=>i≤x.sig.length∧ ∀j,j<i→(decide (clT x k j=none)|| !decide (clT x k j=o0))=false) (m:=fun i=>x.sig.length-i) 0 ⟨nzl _,fun j hj=>absurd hj (nnz j)⟩ (Wk.temps ?_) ?_
 ·(simp only[go_sem,qh,qe,qb,qg];try (repeat' first|(with_reducible apply aiA)|(apply qf;omega)|(apply qd;rfl)|exact qi))
 rintro i ⟨i1,i2⟩ K hK
 by_cases hi:i<x.sig.length
 ·have k1:((i:Int)<x.sig.length)=True:=eqt om;have c1:=fun h=>qxq (x:=x) (k:=k) (s:=i) h ho hk hi
  have hno:(decide (clT x k i=none)|| !decide (clT x k i=o0))=true→R=false:=fun hx=>by rw[hR,qv.2 ⟨i,hi,hx⟩];rfl
  have hS:(decide (clT x k i=none)|| !decide (clT x k i=o0))=false→ ∀j,j<i+1→(decide (clT x k j=none)|| !decide (clT x k j=o0))=false:=fun hx j hj=>by
   by_cases e:j=i
   ·subst e;exact hx
   ·exact i2 j om
  obtain⟨o,hox⟩: ∃o,o=clT x k i:=⟨_,rfl⟩
  rw[←hox]at hno hS;rw[←hox]at c1;unfold coC at c1;cases o0 with
  |none=>
   have hV:R=false:=hno (by cases o<;>simp);rw[hV];simp (disch:=omega) only[coC,k1,Option.isSome_none,Option.getD_none,go_sem]
   repeat' first
    |(refine cA (c1 _) flk ?_;simp (disch:=omega) only[go_sem])
    |(apply qa;exact rvk;simp only[go_sem];exact qi)
    |with_reducible apply aiA
   all_goals try exact clz
  |some w0=>
  cases o with
  |none=>
   rw[hno rfl];simp (disch:=omega) only[coC,k1,Option.isSome_some,Option.getD_some,go_sem]
   repeat' first
    |(refine cA (c1 _) flk ?_;simp (disch:=omega) only[Option.isSome_none,Option.getD_none,Option.getD_some,go_sem])
    |(apply qa;exact rvk;simp only[go_sem];exact qi)
    |with_reducible apply aiA
   all_goals try exact clz
  |some w=>
  by_cases g:w=w0
  ·have q1:(w=w0)=True:=eqt g;simp (disch:=omega) only[coC,k1,Option.isSome_some,Option.getD_some,go_sem]
   repeat' first
    |(refine cA (c1 _) flk ?_;simp (disch:=omega) only[q1,Option.isSome_some,Option.getD_some,go_sem])
    |with_reducible apply aiA
   all_goals try exact clz
   refine hK _ _ (i+1) ⟨hi,hS (by rw[g];simp)⟩ om (Wk.temps ?_)
   (simp only[go_sem,qh,qe,qb,qg];try (repeat' first|(with_reducible apply aiA)|(apply qf;omega)|(apply qd;rfl)|exact qi))
  ·have q1:(w=w0)=False:=eqf g;rw[hno (by simp[g])];simp (disch:=omega) only[coC,k1,Option.isSome_some,Option.getD_some,go_sem]
   repeat' first
    |(refine cA (c1 _) flk ?_;simp (disch:=omega) only[q1,Option.isSome_some,Option.getD_some,go_sem])
    |(apply qa;exact rvk;simp only[go_sem];exact qi)
    |with_reducible apply aiA
   all_goals try exact clz
 ·have k1:((i:Int)<x.sig.length)=False:=eqf om;have hV:R=true:=by rw[hR,qk.2 fun j hj=>i2 j om];rfl
  rw[hV];simp (disch:=omega) only[coC,k1,go_sem]
  repeat' first
   |(apply qa;exact rvk;simp only[go_sem];exact qi)
end
theorem rdP(x:Co)(f t s:Nat)(h:List AObj)(ho:CoOk x)(ht:t≤x.col.length)(hs:s<x.sig.length)(hn:x.col.length≤1000000000):ACalls Tryz.prog 274 [.agg (coC x),.int .i64 (f:Int),.int .i64 (t:Int),.int .i64 (s:Int)] h (strs (rdG x s f (t-f))) h:=by
 refine acO quU ?_;simp (disch:=omega) only[qty,coC,go_sem];refine qn (T:=fun i:Nat×Nat×AObj=>qM 32 [(2,.int .i64 (t:Int)),(3,.int .i64 (s:Int)),(4,.op h.length 1 0),(9,.osl (h.length+2) i.2.1 1 0 (rdG x s f i.1).length),(10,.int .i64 ((f+i.1:Nat):Int))])
  (H:=fun i=>h++ [.mem 1 26 (coC x),.emp 1,kx i.2.1 9 (zZ (rdG x s f i.1)),i.2.2,.emp 0])
  (inv:=fun i=>i.1≤t-f∧qP [i.2.2] 0=true) (m:=fun i=>t-f-i.1) (0,1,.emp 0) ⟨nzl _,rfl⟩ (Wk.temps ?_) ?_
 ·(simp only[rdG,lnl,Nat.add_zero,go_sem,qh,qe,qb,qg];try (repeat' first|(with_reducible apply aiA)|(apply qf;omega)|(apply qd;rfl)|exact qi))
 rintro⟨d,v,O⟩ ⟨i1,i2⟩ K hK;simp only at i1 i2 hK;have i2': ∀m,qP (O::m) 0=true:=fun _=>i2
 have hln:=qap x s f d;have hst:rdG x s f (d+1)=rdG x s f d++(clT x (f+d) s).toList:=rfl;obtain⟨L,hL⟩: ∃L,L=rdG x s f d:=⟨_,rfl⟩
 rw[←hL]at hln hst;have eL:=hL.symm;have eC:=zO L
 by_cases hi:f+d<t
 ·have k1:(((f+d:Nat):Int)<t)=True:=eqt om;have c1:=fun h=>qxq (x:=x) (k:=f+d) (s:=s) h ho om hs
  obtain⟨o,hox⟩: ∃o,o=clT x (f+d) s:=⟨_,rfl⟩
  rw[←hox]at hst c1;unfold coC at c1;have eTk:List.take L.length (zZ L)=zZ L:=ltl om;cases o with
  |none=>
   have hst:rdG x s f (d+1)=L:=by rw[hst];simp
   simp (disch:=omega) only[coC,k1,eL,go_sem]
   repeat' first
    |(refine cA (c1 _) flk ?_;simp (disch:=omega) only[i2',Option.isSome_none,Option.getD_none,go_sem])
    |with_reducible apply aiA
   all_goals try exact clz
   refine hK _ _ (d+1,v,O) ⟨om,i2⟩ (by simp only;omega) ?_;simp only[hst];refine Wk.temps ?_
   (simp only[go_sem,qh,qe,qb,qg];try (repeat' first|(with_reducible apply aiA)|(apply qf;omega)|(apply qd;rfl)|exact qi))
  |some w=>
   have hst:rdG x s f (d+1)=L++ [w]:=hst;simp (disch:=omega) only[coC,k1,eL,Option.isSome_some,Option.getD_some,go_sem]
   repeat' first
    |(refine cA (c1 _) flk ?_;simp (disch:=omega) only[i2',eC,eTk,Nat.mul_one,Option.isSome_some,Option.getD_some,go_sem])
    |with_reducible apply aiA
   all_goals try exact clz
   have eA:zZ L++ [AV.str w]=zZ (rdG x s f (d+1)):=by rw[hst,qbD];rfl
   try rw[eA]
   refine hK _ _ (d+1,v+1,.mem (qr (some O)+1) 9 [.str w]) ⟨om,rfl⟩ (by simp only;omega) ?_;simp only[hst,lap,lco,lnl];refine Wk.temps ?_
   (simp only[go_sem,qh,qe,qb,qg];try (repeat' first|(with_reducible apply aiA)|(apply qf;omega)|(apply qd;rfl)|exact qi))
 ·have k1:(((f+d:Nat):Int)<t)=False:=eqf om;obtain rfl:d=t-f:=by omega
  rw[eL];simp (disch:=omega) only[k1,go_sem]
  repeat' first
   |(apply qa;exact rvk;simp only[go_sem])
  exact qf3 (fun _=>rfl) rfl
def rnX(x:Co):List (List AV):=(qeW (cmB x) x.col.length).map fun r=> [.int .i64 (r.1:Int),.int .i64 (r.2:Int)]
theorem qzW(x:Co)(h:List AObj):ACalls Tryz.prog 233 [.agg (coC x)] h (.fn (.func 277) [] [.ip (coC x)]) h:=by
 unfold coC;refine acO quI ?_;simp (disch:=omega) only[qto,go_sem]
 repeat' first
  |(apply qa;exact rvk;simp only[go_sem];exact qi)
theorem qzU(u:Un)(f t:Int)(h:List AObj):ACalls Tryz.prog 234 [.agg (unC u),.ip [.int .i64 f],.ip [.int .i64 t]] h (.bool (decide (u.frm≤f)&&decide (t≤u.to))) h:=by
 by_cases g:u.frm≤f
 ·have k1:(u.frm≤f)=True:=eqt g;rw[dqt g,Bool.true_and];refine acO qo6 ?_;simp (disch:=omega) only[qp2,unC,k1,go_sem]
  repeat' first
   |(apply qa;exact rvk;simp only[go_sem];exact qi)
   |with_reducible apply aiA
  all_goals try exact clz
 ·have k1:(u.frm≤f)=False:=eqf g;rw[dqf g,Bool.false_and];refine acO qo6 ?_;simp (disch:=omega) only[qp2,unC,k1,go_sem]
  repeat' first
   |(apply qa;exact rvk;simp only[go_sem];exact qi)
   |with_reducible apply aiA
  all_goals try exact clz
theorem qvJ{p:Nat→Bool}{n f t:Nat}(h1:f≤t)(h2:t≤n)(h3: ∀j,f≤j→j<t→p j=false)(h4:t<n→p t=true):nxt p (n-f) f=t:=by
 obtain⟨a1,a2,a3,a4⟩:=qfL p (n-f) f;rcases Nat.lt_trichotomy (nxt p (n-f) f) t with h|h|h
 ·have:=a4 om
  rw[h3 _ a1 h]at this;cases this
 ·exact h
 ·have:=h4 om
  rw[a3 t h1 h]at this;cases this
theorem qv4{x:Co}{pre rest:List (Nat×Nat)}{r:Nat×Nat}(h:qeW (cmB x) x.col.length=pre++r::rest): ∃g:pre.length<(rnX x).length,(rnX x)[pre.length]= [.int .i64 (r.1:Int),.int .i64 (r.2:Int)]:=by
 unfold rnX;refine⟨by rw[h];simp,?_⟩;simp only[h,List.getElem_map];rw[List.getElem_append_right (nlr _)];simp
structure RnS where
 f:Nat
 D:Nat
 pre:List (Nat×Nat)
 hh:List AObj
theorem itR(x:Co)(ho:CoOk x)(hn:x.col.length≤1000000000):qsT Tryz.prog 277 [.ip (coC x)] (rnX x):=by
 intro h ts LI S E hS hE body start hts;have hcom:=fun k h hk=>cmP (x:=x) (k:=k) h ho hk
 obtain⟨p,hp⟩: ∃p,p=cmB x:=⟨_,rfl⟩
 have hxl:(rnX x).length=(qeW p x.col.length).length:=by rw[hp];simp[rnX]
 have hat:= @qv4 x;rw[←hp]at hat;rw[←hp]at hcom;refine acQ quX ?_;simp (disch:=omega) only[qtB,coC,go_sem];refine qn (T:=fun i:RnS=>qM 36 [(0,.yld h.length),(1,.ip (coC x)),(3,.int .i64 i.f)]) (H:=fun i=>i.hh++ [.lp .ready ts LI])
  (inv:=fun i=>i.f≤x.col.length+1∧x.col.length-i.f<i.D∧qeW p x.col.length=i.pre++ke p x.col.length i.D i.f∧S i.pre.length i.hh) (m:=fun i=>x.col.length+1-i.f) ⟨0,x.col.length+1,[],h⟩ ⟨nzl _,by simp only;omega,rfl,start⟩ (Wk.temps ?_) ?_
 ·(simp only[coC,go_sem,qh,qe,qg];try (repeat' first|(with_reducible apply aiA)|(apply qf;omega)|(apply qd;rfl)|exact qi))
 rintro⟨f,D,pre,hh⟩ ⟨i1,i2,i3,i4⟩ K hK;simp only at i1 i2 i3 i4 hK;obtain⟨hlen,hlow⟩:=hS _ _ i4;have hb:(h++ [AObj.lp LS.ready ts LI]).length=(hh++ [AObj.lp LS.ready ts LI]).length:=by simp[hlen]
 by_cases hi:f<x.col.length
 ·have q0:((f:Int)<x.col.length)=True:=eqt om;obtain⟨D',rfl⟩: ∃D',D=D'+1:=⟨D-1,om⟩
  have hD:ke p x.col.length (D'+1) f=(if f<nxt p (x.col.length-f) f then [(f,nxt p (x.col.length-f) f)] else [])++ke p x.col.length D' (nxt p (x.col.length-f) f+1):=by
   conv=>lhs;unfold ke
   rw[ine om]
  simp (disch:=omega) only[coC,qp,q0,go_sem]
  repeat' first
   |with_reducible apply aiA
  all_goals try exact clz
  refine qn (T:=fun t:Nat=>qM 36 [(0,.yld h.length),(1,.ip (coC x)),(3,.int .i64 f),(4,.int .i64 t)]) (H:=fun _=>hh++ [.lp .ready ts LI])
   (inv:=fun t=>f≤t∧t≤x.col.length∧ ∀j,f≤j→j<t→p j=false) (m:=fun t=>x.col.length-t) f ⟨nlr _,om,fun j h1 h2=>by omega⟩ (Wk.temps ?_) ?_
  ·(simp only[coC,go_sem,qh,qe,qb,qg];try (repeat' first|(with_reducible apply aiA)|(apply qf;omega)|(apply qd;rfl)|exact qi))
  rintro t ⟨t1,t2,t3⟩ K2 hK2;have fin:(t<x.col.length→p t=true)→ke p x.col.length (D'+1) f=(if f<t then [(f,t)] else [])++ke p x.col.length D' (t+1):=fun h4=>by
   rw[hD,qvJ t1 t2 t3 h4]
  have hend: ∀hh',ke p x.col.length (D'+1) f=(if f<t then [(f,t)] else [])++ke p x.col.length D' (t+1)→S (pre++if f<t then [(f,t)] else []).length hh'→qeW p x.col.length=(pre++if f<t then [(f,t)] else [])++ke p x.col.length D' (t+1):=fun hh' h1 _=>by
   rw[i3,h1,List.append_assoc]
  by_cases ht:t<x.col.length
  ·have q1:((t:Int)<x.col.length)=True:=eqt om;have c1:=fun h=>hcom t h ht
   cases hpt:p t with
   |false=>
    rw[hpt]at c1;unfold coC qp at c1;simp (disch:=omega) only[coC,qp,q1,go_sem]
    repeat' first
     |(refine cG (fun e=>c1 _) flk ?_;simp (disch:=omega) only[go_sem])
     |with_reducible apply aiA
    all_goals try exact clz
    refine hK2 _ _ (t+1) ⟨om,ht,fun j h1 h2=> ?_⟩ om (Wk.temps ?_)
    ·by_cases e:j=t
     ·subst e;exact hpt
     ·exact t3 j h1 om
    ·(simp only[coC,go_sem,qh,qe,qb,qg];try (repeat' first|(with_reducible apply aiA)|(apply qf;omega)|(apply qd;rfl)|exact qi))
   |true=>
    rw[hpt]at c1;have hf:=fin fun _=>hpt
    unfold coC qp at c1
    by_cases gt:f<t
    ·have q2:((f:Int)<t)=True:=eqt om;rw[ipo gt]at hf;rw[hf]at i3;obtain⟨hdl,hxx⟩:=hat (pre:=pre) (r:=(f,t)) (rest:=ke p x.col.length D' (t+1)) i3;have hb':=body pre.length hh [] hdl i4;rw[hxx]at hb';have i5:qeW p x.col.length=(pre++ [(f,t)])++ke p x.col.length D' (t+1):=by rw[i3];simp
     simp (disch:=omega) only[coC,qp,q1,go_sem]
     repeat' first
      |(refine cG (fun e=>c1 _) flk ?_;simp (disch:=omega) only[q2,go_sem])
      |with_reducible apply aiA
     all_goals try exact clz
     ·exact⟨.ready,ts,LI,ku hlen⟩
     ·refine kp.mono ?_ hb';rintro v h' ⟨hh',⟨rfl,hn',rfl⟩|⟨st,rfl,hs',rfl⟩⟩
      ·simp (disch:=omega) only[go_sem];refine hK _ _ ⟨t+1,D',pre++ [(f,t)],hh'⟩ ⟨by simp only;omega,by simp only;omega,i5,by simp only[lap,lco,lnl];exact hn'⟩ (by simp only;omega) (Wk.temps ?_)
       (simp only[coC,go_sem,qh,qe,qb,qg];try (repeat' first|(with_reducible apply aiA)|(apply qf;omega)|(apply qd;rfl)|exact qi))
      ·simp (disch:=omega) only[go_sem];obtain⟨r1,r2⟩:=(hE _ _ hs').ret (L:=LI) st hts;exact kS trivial r1 r2 ⟨_,.inr ⟨st,hs',rfl⟩⟩ (qi)
    ·have q2:((f:Int)<t)=False:=eqf om;rw[ine gt,lna]at hf;rw[hf]at i3;simp (disch:=omega) only[coC,qp,q1,go_sem]
     repeat' first
      |(refine cG (fun e=>c1 _) flk ?_;simp (disch:=omega) only[q2,go_sem])
      |with_reducible apply aiA
     all_goals try exact clz
     refine hK _ _ ⟨t+1,D',pre,hh⟩ ⟨by simp only;omega,by simp only;omega,i3,i4⟩ (by simp only;omega) (Wk.temps ?_)
     (simp only[coC,go_sem,qh,qe,qb,qg];try (repeat' first|(with_reducible apply aiA)|(apply qf;omega)|(apply qd;rfl)|exact qi))
  ·have q1:((t:Int)<x.col.length)=False:=eqf om;have hf:=fin fun hx=>absurd hx ht
   by_cases gt:f<t
   ·have q2:((f:Int)<t)=True:=eqt om;rw[ipo gt]at hf;rw[hf]at i3;obtain⟨hdl,hxx⟩:=hat (pre:=pre) (r:=(f,t)) (rest:=ke p x.col.length D' (t+1)) i3;have hb':=body pre.length hh [] hdl i4;rw[hxx]at hb';have i5:qeW p x.col.length=(pre++ [(f,t)])++ke p x.col.length D' (t+1):=by rw[i3];simp
    simp (disch:=omega) only[coC,qp,q1,go_sem]
    repeat' first
     |(refine qj ( .bool false) ?_;simp (disch:=omega) only[q2,go_sem])
     |with_reducible apply aiA
    all_goals try exact clz
    ·exact⟨.ready,ts,LI,ku hlen⟩
    ·refine kp.mono ?_ hb';rintro v h' ⟨hh',⟨rfl,hn',rfl⟩|⟨st,rfl,hs',rfl⟩⟩
     ·simp (disch:=omega) only[go_sem];refine hK _ _ ⟨t+1,D',pre++ [(f,t)],hh'⟩ ⟨by simp only;omega,by simp only;omega,i5,by simp only[lap,lco,lnl];exact hn'⟩ (by simp only;omega) (Wk.temps ?_)
      (simp only[coC,go_sem,qh,qe,qb,qg];try (repeat' first|(with_reducible apply aiA)|(apply qf;omega)|(apply qd;rfl)|exact qi))
     ·simp (disch:=omega) only[go_sem];obtain⟨r1,r2⟩:=(hE _ _ hs').ret (L:=LI) st hts;exact kS trivial r1 r2 ⟨_,.inr ⟨st,hs',rfl⟩⟩ (qi)
   ·exact absurd (show f<t by omega) gt
 ·have q0:((f:Int)<x.col.length)=False:=eqf om;have hD:ke p x.col.length D f= []:=by
   cases D with
   |zero=>rfl
   |succ D=>unfold ke;rw[ipo om]
  rw[hD,lan]at i3;simp (disch:=omega) only[coC,qp,q0,go_sem]
  repeat' first
   |with_reducible apply aiA
  all_goals try exact clz
  obtain⟨r1,r2⟩:=(hS _ _ i4).ret (L:=LI) .ready hts;exact kS trivial r1 r2 ⟨hh,.inl ⟨by rw[hxl,i3];exact i4,rfl⟩⟩ (qi)
structure qeo (l:List Un):Prop where
 n:l.length≤1000000000
 rd: ∀i,(l.getD i default).rds.length≤1000000000
 sr: ∀i j,((l.getD i default).rds.getD j default).src.length≤1000000000
 wd: ∀i j,((l.getD i default).rds.getD j default).words.length≤1000000000
structure qhN (L:List Rd):Prop where
 n:L.length≤1000000000
 sr: ∀j,(L.getD j default).src.length≤1000000000
 wd: ∀j,(L.getD j default).words.length≤1000000000
theorem qxD(a b:List Str)(h:List AObj)(h1:a.length≤1000000000)(h2:b.length≤1000000000):ACalls Tryz.prog 53 [strs a,strs b] h (.bool (decide (a=b))) h:=by
 have c:=qxE a b.length (fun j=>b.getD j []) h h1 h2;have e:decide (a.length=b.length∧ ∀i,i<a.length→a.getD i []=b.getD i [])=decide (a=b):=decide_eq_decide.2 (jg ([]:Str)).symm;rw[e]at c;exact c
theorem qy0(a b:List Int)(h:List AObj)(h1:a.length≤1000000000)(h2:b.length≤1000000000):ACalls Tryz.prog 40 [qq a,qq b] h (.bool (decide (a=b))) h:=by
 have c:=qxC qvc a.length b.length (fun j=> .i (a.getD j 0)) (fun j=> .i (b.getD j 0)) h (fun _ _ _=>rfl) om om;simp only[At.v,At.i.injEq]at c;have e:decide (a.length=b.length∧ ∀i,i<a.length→a.getD i 0=b.getD i 0)=decide (a=b):=decide_eq_decide.2 (jg (0:Int)).symm;rw[e]at c;exact c
theorem qnU{r s:Rd}:r=s↔r.words=s.words∧r.src=s.src:=by
 cases r;cases s;simp
theorem qzX(r s:Rd)(h:List AObj)(h1:r.words.length≤1000000000)(h2:s.words.length≤1000000000)(h3:r.src.length≤1000000000)(h4:s.src.length≤1000000000):ACalls Tryz.prog 273 [.agg (rdC r),.agg (rdC s)] h (.bool (decide (r=s))) h:=by
 have c1:=fun h=>qxD r.words s.words h h1 h2
 have c2:=fun h=>qy0 r.src s.src h h3 h4
 have e:decide (r=s)=(decide (r.words=s.words)&&decide (r.src=s.src)):=by rw[←Bool.decide_and];exact decide_eq_decide.2 qnU
 rw[e];obtain⟨a,ha⟩: ∃a,a=decide (r.words=s.words):=⟨_,rfl⟩
 obtain⟨b,hb⟩: ∃b,b=decide (r.src=s.src):=⟨_,rfl⟩
 rw[←ha,←hb];simp only[←ha]at c1;simp only[←hb]at c2;cases a with
 |true=>
  rw[Bool.true_and];refine acO qpc ?_;simp (disch:=omega) only[qp8,rdC,go_sem]
  repeat' first
   |((first|refine cA (c1 _) ?_ ?_|refine cG (fun e=>c2 _) ?_ ?_);exact flk;simp (disch:=omega) only[go_sem])
   |(apply qa;exact rvk;simp only[go_sem];exact qi)
   |with_reducible apply aiA
  all_goals try exact clz
 |false=>
  rw[Bool.false_and];refine acO qpc ?_;simp (disch:=omega) only[qp8,rdC,go_sem]
  repeat' first
   |(refine qj ( .bool false) ?_;simp (disch:=omega) only[go_sem])
   |(refine cA (c1 _) flk ?_;simp (disch:=omega) only[go_sem])
   |(apply qa;exact rvk;simp only[go_sem];exact qi)
theorem efP(a b:List Rd)(h:List AObj)(za:qhN a)(zb:qhN b):ACalls Tryz.prog 272 [zL a,zL b,.fn (.func 273) [] []] h (.bool (decide (a=b))) h:=by
 have ha:=za.n;have hb:=zb.n;have he:decide (a=b)=decide (a.length=b.length∧ ∀i,i<a.length→a.getD i default=b.getD i default):=decide_eq_decide.2 (jg (default:Rd));obtain⟨R,hR⟩: ∃R,R=decide (a=b):=⟨_,rfl⟩
 rw[←hR]at he ⊢
 by_cases g:a.length=b.length
 case neg=>
  have k1:((a.length:Int)=b.length)=False:=eqf om;rw[dqf (fun hc=>g hc.1)]at he;rw[he];refine acO qpb ?_;simp (disch:=omega) only[qp7,zL,k1,go_sem]
  repeat' first
   |(apply qa;exact rvk;simp only[go_sem];exact qi)
 have k1:((a.length:Int)=b.length)=True:=eqt om;refine acO qpb ?_;simp (disch:=omega) only[qp7,zL,k1,go_sem];refine qn (T:=fun i:Nat×AObj×AObj=>qM 32 [(1,zL b),(2,.fn (.func 273) [] []),(15,zL a),(16,.int .i64 a.length),(17,.int .i64 i.1)]) (H:=fun i=>h++ [i.2.1,i.2.2])
  (inv:=fun i=>i.1≤a.length∧qP [i.2.1] 0=true∧qP [i.2.2] 0=true∧ ∀j,j<i.1→a.getD j default=b.getD j default) (m:=fun i=>a.length-i.1) (0,.emp 0,.emp 0) ⟨nzl _,rfl,rfl,fun j hj=>absurd hj (nnz j)⟩ (Wk.temps ?_) ?_
 ·(simp only[zL,go_sem,qh,qe,qb,qg];try (repeat' first|(with_reducible apply aiA)|(apply qf;omega)|(apply qd;rfl)|exact qi))
 rintro⟨i,O1,O2⟩ ⟨i1,j1,j2,i2⟩ K hK;simp only at i1 j1 j2 i2 hK;have j1': ∀m,qP (O1::m) 0=true:=fun _=>j1
 have j2': ∀m,qP (O2::m) 0=true:=fun _=>j2
 by_cases hi:i<a.length
 ·have k2:((i:Int)<a.length)=True:=eqt om;have k3:((i:Int)<b.length)=True:=eqt om;have c1:=fun h=>qzX (a.getD i default) (b.getD i default) h (za.wd i) (zb.wd i) (za.sr i) (zb.sr i)
  have hno: ¬a.getD i default=b.getD i default→R=false:=fun hx=>by rw[he];exact dqf fun hc=>hx (hc.2 i hi)
  have hS:a.getD i default=b.getD i default→ ∀j,j<i+1→a.getD j default=b.getD j default:=fun hx j hj=>by
   by_cases e:j=i
   ·subst e;exact hx
   ·exact i2 j om
  obtain⟨r,hr⟩: ∃r,r=a.getD i default:=⟨_,rfl⟩
  obtain⟨s,hs⟩: ∃s,s=b.getD i default:=⟨_,rfl⟩
  have er:=hr.symm;have es:=hs.symm;rw[er,es]at hno hS;simp only[er,es]at c1;unfold rdC at c1
  by_cases g2:r=s
  ·have k4:decide (r=s)=true:=dqt g2;simp only[k4]at c1;simp (disch:=omega) only[zL,rdC,k2,k3,er,es,j1',j2',go_sem]
   repeat' first
    |(refine qu (c1 _) ?_;simp (disch:=omega) only[go_sem])
    |with_reducible apply aiA
   all_goals try exact clz
   refine hK _ _ (i+1,_,_) ⟨hi,rfl,rfl,hS g2⟩ (by simp only;omega) (Wk.temps ?_)
   (simp only[zL,go_sem,qh,qe,qb,qg];try (repeat' first|(with_reducible apply aiA)|(apply qf;omega)|(apply qd;rfl)|exact qi))
  ·have k4:decide (r=s)=false:=dqf g2;simp only[k4]at c1;rw[hno g2];simp (disch:=omega) only[zL,rdC,k2,k3,er,es,j1',j2',go_sem]
   repeat' first
    |(refine qu (c1 _) ?_;simp (disch:=omega) only[go_sem])
    |(apply qa;exact rvk;simp only[go_sem];exact qi)
    |with_reducible apply aiA
   all_goals try exact clz
 ·have k2:((i:Int)<a.length)=False:=eqf om;rw[he,dqt ⟨g,fun j hj=>i2 j om⟩];simp (disch:=omega) only[zL,k2,go_sem]
  repeat' first
   |(apply qa;exact rvk;simp only[go_sem];exact qi)
theorem qzY(a b:List Rd)(h:List AObj)(za:qhN a)(zb:qhN b):ACalls Tryz.prog 231 [zL a,zL b] h (.bool (decide (a=b))) h:=by
 have c1:=fun h=>efP a b h za zb
 refine acO quG ?_;simp (disch:=omega) only[qtm,go_sem]
 repeat' first
  |(refine cA (c1 _) flk ?_;simp (disch:=omega) only[go_sem])
  |(apply qc;exact rvk;simp only[go_sem];exact qi)
theorem qzR(r s:Rd)(h:List AObj)(h1:r.words.length≤1000000000)(h2:s.words.length≤1000000000):ACalls Tryz.prog 276 [.agg (rdC r),.agg (rdC s)] h (.bool (decide (r.words=s.words))) h:=by
 have c1:=fun h=>qxD r.words s.words h h1 h2
 refine acO quW ?_;simp (disch:=omega) only[qtA,rdC,go_sem]
 repeat' first
  |(refine cA (c1 _) flk ?_;simp (disch:=omega) only[go_sem])
  |(apply qa;exact rvk;simp only[go_sem];exact qi)
theorem fd1(r y:Rd)(h:List AObj)(h1:r.words.length≤1000000000)(h2:y.words.length≤1000000000):ACalls Tryz.prog 301 [.agg (rdC y),.ip [.fn (.func 276) [] []],.ip (rdC r)] h (.bool (decide (r.words=y.words))) h:=by
 have c1:=fun h=>qzR r y h h1 h2
 unfold rdC at c1;refine acO qu4 ?_;simp (disch:=omega) only[qtH,rdC,go_sem]
 repeat' first
  |(refine qu (c1 _) ?_;simp (disch:=omega) only[go_sem])
  |(apply qa;exact rvk;simp only[go_sem];exact qi)
  |with_reducible apply aiA
 all_goals try exact clz
theorem fdP(L:List Rd)(r:Rd)(h:List AObj)(hL:L.length≤1000000000)(h1:r.words.length≤1000000000)(h2: ∀j,(L.getD j default).words.length≤1000000000):ACalls Tryz.prog 275 [zL L,.agg (rdC r),.fn (.func 276) [] []] h (.int .i64 (qem L r.words)) h:=by
 have c1: ∀k v k2 v2 H,getO k H=some (.mem v 89 (rdC r))→getO k2 H=some (.mem v2 280 [.fn (.func 276) [] []])→
   ACalls Tryz.prog 127 [zL L,.fn (.func 301) [] [.op k2 v2 0,.op k v 0]] H (.int .i64 (qem L r.words)) H:=fun k v k2 v2 H hk hk2=>by
  have hc:=qS hk;have hc2:=qS hk2;unfold zL qem;refine qeJ qo1 L.length (fun j=>rdC (L.getD j default)) (fun j=> .agg (rdC (L.getD j default))) _ [] [.op k2 v2 0,.op k v 0] _ H (fun i _=>⟨rfl,by simp[jE,rdC],rfl,rfl,rfl⟩) (fun i _=> ?_) om;refine ACalls.borrow ?_ rfl;have e:([AV.agg (rdC (L.getD i default))]++ [AV.op k2 v2 0,AV.op k v 0]).map (rei (fun _=>true) H 8)= [.agg (rdC (L.getD i default)),.ip [.fn (.func 276) [] []],.ip (rdC r)]:=by
   simp only[lca,lna,List.map_cons,List.map_nil,rei_op,if_true,hc,hc2,ipOf_some,List.drop_zero,rei_agg];rfl
  rw[lna,e];exact fd1 r _ _ h1 (h2 i)
 have c2:=c1 h.length 1 (h.length+1) 1 (h++ [.mem 1 89 (rdC r),.mem 1 280 [.fn (.func 276) [] []]]) (by rw[getO_app0];rfl) (by simp only[go_sem]);unfold rdC at c2;refine acO quV ?_;simp (disch:=omega) only[qtz,rdC,go_sem]
 repeat' first
  |(refine cA (c2) flk ?_;simp (disch:=omega) only[go_sem])
  |(apply qa;exact rvk;simp only[go_sem];exact qi)
end RC
end
