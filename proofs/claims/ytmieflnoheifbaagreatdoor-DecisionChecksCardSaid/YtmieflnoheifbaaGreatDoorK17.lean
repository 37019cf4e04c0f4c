import Derived.Test.YtmieflnoheifbaaGreatDoorK15
import Derived.Test.YtmieflnoheifbaaGreatDoorK3
import Derived.Test.YtmieflnoheifbaaGreatDoorK5
import Derived.Test.YtmieflnoheifbaaGreatDoorK8
import Derived.Test.YtmieflnoheifbaaGreatDoorProg
import Derived.Test.YtmieflnoheifbaaGreatDoorK12
import Derived.Test.YtmieflnoheifbaaGreatDoorK16
import Derived.Test.YtmieflnoheifbaaGreatDoorK10
import Derived.Shelf.Strings.OnBuilder
import Derived.Test.YtmieflnoheifbaaGreatDoorK9
import Derived.Test.YtmieflnoheifbaaGreatDoorK11
import Derived.Shelf.Slices.In.SortNone
import Derived.Lib.ItoaLen
import Derived.Test.YtmieflnoheifbaaGreatDoorK14
set_option linter.all false
set_option maxHeartbeats 256000000
set_option maxRecDepth 100000
section
open Go Go.Proofs AF HY LN
namespace RC
def unF(x:Co)(r:Nat×Nat):Un:=⟨(r.1:Int),(r.2:Int),qbE x r.1 r.2⟩
def rnL(x:Co):List (Nat×Nat):=qc7 (cmB x) x.col.length
def qiP(x:Co):List Un:=(rnL x).map (unF x)
theorem qp0(p:Nat->Bool)(n:Nat): ∀d f,(kQ p n d f).Pairwise λa b=>a.2<b.1:=by
 intro d
 induction d with
 |zero=>intro f;exact List.Pairwise.nil
 |succ d ih=>
  intro f;unfold kQ;split
  ·exact List.Pairwise.nil
  ·rw[List.pairwise_append];refine⟨?_,ih _,λa ha b hb=> ?_⟩
   ·split
    ·exact List.pairwise_singleton _ _
    ·exact List.Pairwise.nil
   ·split at ha
    ·rw[List.mem_singleton]at ha;subst ha
     have:=((qdI p n d (nxt p (n-f) f+1)).1 b hb).1
     show nxt p (n-f) f<b.1;omega
    ·cases ha
theorem qha(x:Co):(qiP x).length=(rnL x).length:=by unfold qiP;rw[List.length_map]
theorem qf4{x:Co}{k:Nat}(hk:k<(rnL x).length):(qiP x).getD k default=unF x (rnL x)[k]:=by
 unfold qiP;rw[gdqA,List.getElem?_map,zz hk];rfl
theorem qrI{x:Co}{k:Nat}(hk:k<(rnL x).length):(rnL x)[k].1<(rnL x)[k].2∧(rnL x)[k].2<=x.col.length∧ ∀c,(rnL x)[k].1<=c->c<(rnL x)[k].2->cmB x c=false:=qmb (List.getElem_mem hk)
theorem qmX(x:Co):qcC x (qiP x)=true:=by
 unfold qcC;rw[Bool.not_eq_true',qq];intro k hk;rw[qha]at hk;rw[Bool.not_eq_false'];obtain⟨h1,h2,_⟩:=qrI hk;refine qmU.2 ?_;rw[qf4 hk];have hb:beH (qiP x) k<((rnL x)[k].1:Int):=by
  unfold beH;split
  ·omega
  ·rename_i h0;rw[qf4 (show k-1<(rnL x).length by omega)]
   have:=List.pairwise_iff_getElem.1 (qp0 (cmB x) x.col.length (x.col.length+1) 0) (k-1) k (by show _<(rnL x).length;omega) hk om
   show ((rnL x)[k-1].2:Int)<_;have this:(rnL x)[k-1].2<(rnL x)[k].1:=this;omega
 refine⟨hb,?_,?_,?_,?_⟩
 ·show (0:Int)<=((rnL x)[k].1:Nat);omega
 ·show ((rnL x)[k].1:Int)<((rnL x)[k].2:Nat);omega
 ·show ((rnL x)[k].2:Int)<=_;omega
 ·show qbE x (rnL x)[k].1 (rnL x)[k].2=qbE x (((rnL x)[k].1:Nat):Int).toNat (((rnL x)[k].2:Nat):Int).toNat;rw[itn,itn]
theorem qoX{d:List Dc}{j:Nat}(ht: ∀o∈d,o.txt.length<=1000):(d.getD j default).txt.length<=1000:=by
 by_cases hj:j<d.length
 ·exact ht _ (jf hj)
 ·rw[gdqA,List.getElem?_eq_none om];exact nzl _
theorem qut{x:Co}{l:List Un}{d:List Dc}{s k:Nat}(ht: ∀o∈d,o.txt.length<=1000):(rwU x l d s k).length<=(toN l k-frN l k)+1000:=by
 unfold rwU;split
 ·rw[jM]
  have:=qdQ x s (frN l k) (toN l k-frN l k)
  omega
 ·rw[jM];unfold qrF;split
  ·have:=qdQ x (qX x (d.getD (qcy x l d k d.length).toNat default).sig).toNat (frN l k) (toN l k-frN l k)
   omega
  ·split
   ·rw[List.length_map];have h1:=qaP (d.getD (qcy x l d k d.length).toNat default).txt;have h2:=qoX (j:=(qcy x l d k d.length).toNat) ht;omega
   ·exact nzl _
theorem qmf(x:Co)(s f t:Nat):(rwC x s f t).length<=t-f:=by
 unfold rwC;rw[jM];exact qdQ x s f _
theorem qmg{x:Co}{l:List Un}{d:List Dc}{s:Nat}(h:qcC x l=true)(ht: ∀o∈d,o.txt.length<=1000): ∀k,k<=l.length->(rwL x l d s k).length<=ku l k+1000*k∧k<=ku l k:=by
 intro k
 induction k with
 |zero=>intro _;exact⟨nzl _,nzl _⟩
 |succ k ih=>
  intro hk;obtain⟨i1,i2⟩:=ih om;have hp:=qlT h (show k<l.length by omega);obtain⟨_,_,a3,a4,_⟩:=qcn h (show k<l.length by omega);have u:=qut (x:=x) (l:=l) (s:=s) (k:=k) ht;have c:=qmf x s (ku l k) (frN l k);rw[qpG];refine⟨?_,om⟩;show (rwL x l d s k++(rwC x s (ku l k) (frN l k)++rwU x l d s k)).length<=_;rw[lap,lap];omega
theorem qur{x:Co}{l:List Un}{d:List Dc}{s:Nat}(h:qcC x l=true)(ht: ∀o∈d,o.txt.length<=1000):(rwA x l d s).length<=1001*x.col.length:=by
 obtain⟨h1,h2⟩:=qmg (d:=d) (s:=s) h ht l.length (nlr _);have hp:=qfC h (nlr l.length);have c:=qmf x s (ku l l.length) x.col.length;unfold rwA;rw[lap];omega
theorem qus{x:Co}{l:List Un}{d:List Dc}{s:Nat}(hc:x.col.length<=10000)(ht: ∀o∈d,o.txt.length<=1000)(h:vaE x l=0):(rwA x l d s).length<=1000000000:=by
 have:=qur (d:=d) (s:=s) (qhb h).2.1 ht
 omega
end RC
end
section
open Go Go.Proofs AF
def qtq:List Nat:= []
@[go_sem]def vK:DT:= DT.one ⟨some 23,none,.app 4 3 39 40,[.t 14,.t 22]⟩ (DT.one ⟨none,none,.store 1,[.t 4,.t 23]⟩ DT.nil)
def qBA:C:=
 (vU [O1 1 (.box 0 26) 0,ON 2 (.nilo 1 3 39) [],vO 3 0] ((vU [O1 7 (.load (some 4)) 1,O1 8 (.call 47 true) 7,vP 9 .neq 8 0] (vV 9 (vX [ON 2 (.nilo 1 3 39) [],vO 3 1]))).seq (vU
 [⟨some 4,none,.alloc 2 31 [.nl],[]⟩] (((C.wk.seq (vY [O1 10 (.load (some 4)) 1,O1 11 (.call 62 true) 10])).seq (C.block 0 (C.range (.t 11) [12,13] (vU [MV 5 12] (vY [MV 6 13]))
 (C.block 1 (C.draw (DT.one ⟨some 15,none,.mv,[.t 5]⟩ (DT.one ⟨some 16,none,.mv,[.t 6]⟩ (DT.one ⟨some 17,none,.load (some 4),[.t 1]⟩ (DT.one ⟨some 18,none,.mv,[.t 5]⟩ (DT.one
 ⟨some 19,none,.mv,[.t 6]⟩ (DT.uni ⟨some 20,none,.call 63 true,[.t 17,.t 18,.t 19]⟩ (DT.one ⟨some 21,none,.build [i6 0,i6 0,.nl] [(0,1),(1,1),(2,1)],[.t 15,.t 16,.t 20]⟩
 ((DT.one ⟨some 14,none,.load none,[.t 4]⟩ (DT.one ⟨some 22,none,.bslc 3 3 1 39 [i6 0,i6 0,.nl] [(0,3)],[.t 21]⟩ vK)).two (DT.one ⟨some 22,none,.bslc 3 3 1 39 [i6 0,i6 0,.nl]
 [(0,3)],[.t 21]⟩ (DT.one ⟨some 14,none,.load none,[.t 4]⟩ vK))))))))))))))).seq (vX [LD 24 4,MV 2 24,vO 3 0])))))
theorem qxs:qI Tryz.prog 12 25 5 [RV.tmp 2,RV.tmp 3] qBA:=fi Tryz.f12 [1,2,4,22,23] qtq [4]
end
section
open Go Go.Proofs AF HY LN
namespace RC
def utE(x:Co):Int:=if coE x=0 then 0 else 1
def utR(x:Co):List Un:=if coE x=0 then qiP x else []
theorem qqc{v n:Nat}{L:List Un}{ty:TypeId}{fz:Nat->Bool}{h:wh}{d:Nat}(hn:n=L.length):VLe (qe9 (some (zg v ty (U4 L))) v 3 0 n (rei fz h (d+1))) (ze L):=by
 subst hn;unfold zg;split
 ·rename_i e
  have:L= []:=by
   cases L with
   |nil=>rfl
   |cons a r=>exact absurd e (by simp[U4,unC])
  subst this;rw[slOf_emp,ipo rfl];exact qP
 ·rw[slOf_mem,ipo ⟨rfl,by rw[qbZ];omega⟩];refine VLe.sl_eq rfl (λi hi=> ?_);simp only[Nat.zero_add];rw[qg9 hi];rfl
theorem qC9(x:Co)(h:wh)(hz:qad x)(hp:kt SG h):ACalls Tryz.prog 12 [.agg (coC x)] h (.tup [ze (utR x),.int .i64 (utE x)]) h:=by
 have c1:=λl'=>coP x (h++l') hz (hp.app l')
 unfold utE utR
 by_cases g:coE x=0
 case neg=>
  have k1:(coE x=0)=False:=eqf g;rw[ine g,ine g];obtain⟨e,he⟩:=wg (coE x)
  rw[<-he]at c1 k1;unfold coC at c1;refine acO qxs ?_;simp (disch:=omega) only[qBA,coC,go_sem]
  repeat' first|(refine cA (c1 _) flk ?_;simp (disch:=omega) only[k1,go_sem])|(apply qb;exact rvk;simp only[go_sem])
  exact VLe.tup ⟨qP,qi,trivial⟩
 rw[ipo g,ipo g];simp only[g]at c1;have ho:=W0 g;have hn:=hz.cl;have c2:=λh=>qD0 x h
 have lx: ∀n v ty,lowO n (.mem v ty (coC x)):=λn v ty=>qtB x n v ty
 unfold coC at c1 c2;refine acO qxs ?_;simp (disch:=omega) only[qBA,coC,go_sem]
 repeat' first|(refine cA (c1 _) flk ?_;simp (disch:=omega) only[go_sem])
 refine⟨_,_,Wk.ownNil (j:=h.length+2) (i:=0) (k:=h.length+4) (v:=1) (ty:=31) (cs:= [.nl]) (ve:=0) (sz:=3) ?m1 rfl ?m2,?_⟩
 case m1=>simp only[go_sem]
 case m2=>simp only[go_sem]
 simp (disch:=omega) only[List.set_cons_zero,go_sem]
 repeat' first|(refine cA (c2 _) flk ?_;simp (disch:=omega) only[go_sem])
 have hrl:=qfE x;have hrg:=λi hi=>ql6 (x:=x) (i:=i) hi
 have hul:(qiP x).length=(qc7 (cmB x) x.col.length).length:=qha x;have hue:=λi (hi:i<(qc7 (cmB x) x.col.length).length)=>qf4 (x:=x) (k:=i) hi
 have hin:=λi (hi:i<(qc7 (cmB x) x.col.length).length)=>qrI (x:=x) (k:=i) hi
 have hle:(qiP x).length<=1000000000:=by
  have h1:=qmg (s:=0) (qmX x) (d:= []) (by simp) (qiP x).length (nlr _);have h2:=qfC (qmX x) (nlr (qiP x).length);omega
 unfold rnL at hue hin;obtain⟨rs,hrs⟩:=wg (qc7 (cmB x) x.col.length)
 simp only[<-hrs]at hrl hrg hul hue hin;obtain⟨L,hL⟩:=wg (qiP x)
 simp only[<-hL]at hul hue hle ⊢;obtain⟨X0,hX0⟩:=wg (AObj.mem 1 26 [.str x.sec,strs x.sig,qm x.tok,qu x.col])
 refine zE (xs:=rnX x) (itR x ho hn) (ql7 x)
  (S:=λi hh=> ∃w O1,qy [O1] 0=true∧(∀n,lowO n O1)∧hh=h++ [.mem 1 26 (coC x),.emp 1,.mem 1 31 [.osl (h.length+4) w 3 0 i],O1,zg w 39 (U4 (L.take i))])
  (E:=λ_ _=>False) ?e1 (λ_ _ h=>h.elim) ?e2 ?e3 ?e4 ?e5 (λ_ _ h=>h.elim)
 case e1=>
  rintro i hh ⟨w,O1,_,l1,rfl⟩;refine LowI.app rfl (λo ho=> ?_);simp only[List.mem_cons,List.not_mem_nil,or_false]at ho;rcases ho with rfl|rfl|rfl|rfl|rfl
  ·left;simp[coC]
  ·left;simp
  ·right;constructor<;>(intro c hc;simp only[List.mem_cons,List.not_mem_nil,or_false]at hc;rcases hc with rfl;simp[qT])
  ·right;exact⟨l1 _,l1 _⟩
  ·right;exact⟨jy (qdU _ _),jy (qdU _ _)⟩
 case e2=>exact⟨0,.emp 0,rfl,λ_=>trivial,rfl⟩
 case e3=>
  have lt: ∀n,qT n (qm x.tok)=true:=λ_=>rfl
  have lc: ∀n,qT n (qu x.col)=true:=λ_=>rfl
  simp[qT,qT.lowVs,lt,lc,qgF]
  try omega
 case e4=>
  rintro i hh tl LI TS hi ⟨w,O1,p1,l1,rfl⟩ hlen K4 K5 hK4 hN hR' hX;rw[hrg i hi];rw[hrl]at hi;have e5:=hue i hi;obtain⟨f1,f2,_⟩:=hin i hi;have e6:rs.getD i (0,0)=rs[i]:=by rw[gdqA,zz hi];rfl
  rw[e6];have p1': ∀m,qy (O1::m) 0=true:=λ_=>p1
  have hTk:L.take (i+1)=L.take i++ [L.getD i default]:=by
   rw[List.take_add_one,zz om,gdqA,zz om];rfl
  rw[e5]at hTk;have hTl:(L.take i).length=i:=by rw[List.length_take];omega
  have eVl:=qbZ (L.take i);rw[hTl]at eVl;have eVk:List.take (i*3) (U4 (L.take i))=U4 (L.take i):=ltl om;obtain⟨⟨f,t⟩,hr⟩: ∃r,r=rs[i]:=⟨_,rfl⟩
  rw[<-hr]at hTk f1 f2 ⊢;have eVn:U4 (L.take (i+1))=U4 (L.take i)++ [.int .i64 (f:Int),.int .i64 (t:Int),ji (qbE x f t)]:=by rw[hTk,qqz,qqA];rfl
  have c48:=λh=>qDZ x f t h ho f2 hn
  unfold coC at c48;have zr: ∀X,(ji X).cells= [ji X]:=λ_=>rfl
  have zm:List.drop 3 (zk [AV.int .i64 0,.int .i64 0,.nl] 1)= []:=rfl;have hi9:((i:Int)+1)*24<=140737488355328:=by omega
  simp only[kK];simp (disch:=omega) only[List.append_assoc,coC,go_sem];refine hK4 _ _ (h++ [.mem 1 26 (coC x),.emp 1,.mem 1 31 [.osl (h.length+4) w 3 0 i],O1,zg w 39 (U4 (L.take i))]) (by simp[coC]) (by simp) ?_;simp (disch:=omega) only[List.append_assoc,coC,go_sem];refine kg ?T ?H ?h1 ?h2
  case h1=>
   simp (disch:=omega) only[go_sem]
   repeat' first|(refine cU (λ_=>c48 _) flk ?_;simp (disch:=omega) only[p1',eVl,eVk,List.set_cons_zero,zr,zm,go_sem])|with_reducible apply aiA
   all_goals first
    |omega
    |rfl
    |(rw[bne_iff_ne];omega)
    |skip
  case h2=>
  simp (disch:=omega) only[go_sem];refine hN _ _ (h++ [.mem 1 26 (coC x),.emp 1,.mem 1 31 [.osl (h.length+4) (w+1) 3 0 (i+1)],.mem (qo (some O1)+1) 39 [.int .i64 (f:Int),.int .i64 (t:Int),ji (qbE x f t)],zg (w+1) 39 (U4 (L.take (i+1)))]) (by rw[eVn];simp[coC]) (by simp)
   ⟨w+1,_,rfl,?lw,rfl⟩
  case lw=>
  intro n c hc;simp only[List.mem_cons,List.not_mem_nil,or_false]at hc;rcases hc with rfl|rfl|rfl<;>rfl
 case e5=>
  rintro hh ⟨w,O1,p1,l1,rfl⟩;rw[hrl,<-hul,List.take_length];simp (disch:=omega) only[go_sem]
  repeat' first|(apply qb;exact rvk;simp only[go_sem])|with_reducible apply aiA|exact clz|fail
  exact VLe.tup ⟨qqc rfl,qi,trivial⟩
end RC
end
section
namespace Go.Proofs
open Go.Shelf
end Go.Proofs
end
section
open Go Go.Proofs AF HY LN
namespace RC
end RC
end
section
open Go Go.Proofs AF
def jJ:List Nat:= []
def qBf:C:=
 (vU [O1 2 (.box 0 26) 0,vO 4 0] ((vU [O1 5 (.load (some 4)) 2,O1 6 (.call 10 true) 5,vP 7 .neq 6 0] (vV 7 (vX [vO 4 1]))).seq ((vU [O1 8 (.load (some 4)) 2,MV 9 1,O2 10 (.call
 160 true) 8 9,vP 11 .neq 10 0] (vV 11 (vX [vO 4 20]))).seq (vX [vO 4 0]))))
theorem qtd:qI Tryz.prog 84 12 1 [RV.tmp 4] qBf:=fi Tryz.f84 [2] jJ []
def qBJ:C:=
 (vU [O1 3 (.box 0 26) 0,vO 6 0] ((vU [MV 9 2,O1 10 .len 9,vP 11 .gtr 10 256] (vV 11 (vX [vO 6 4]))).seq ((vU [vO 7 0] (C.block 0 ((v6 12 7 2 0).seq ((C.block 1 (vU [O1 18 (.load
 (some 4)) 3,MV 19 1,MV 20 2,MV 21 7,O2 22 (.idxA 4) 20 21,O1 23 (.load (some 4)) 22,ON 24 (.call 98 true) [.t 18,.t 19,.t 23],MV 8 24] (vU [MV 25 8,vP 26 .neq 25 0] (vV 26 (vX
 [MV 27 8,MV 6 27]))))).seq (vZ 16 7))).loop)).seq (vX [vO 6 0]))))
theorem qyS:qI Tryz.prog 85 28 1 [RV.tmp 6] qBJ:=fi Tryz.f85 [3] jJ []
def qDM:C:=
 (vU [vO 4 0] ((vU [vO 5 0] (C.block 0 ((v6 6 5 0 0).seq ((C.block 1 (vU [MV 12 0,MV 13 5,O2 14 (.idxA 3) 12 13,vN 15 0 14,LD 16 15,MV 17 1,BI 18 .leq 16 17,MV 19 18,MG 20 19
 true 1,MG 21 19 true 0,MG 22 19 true 5,P2 23 19 true (.idxA 3) 21 22,P1 24 19 true (.fldA 1) 23,P1 25 19 true (.load none) 24,P2 26 19 true (.bin .lss) 20 25,PF 27 19 26] (vV
 27 (vX [MV 28 5,MV 4 28])))).seq (vZ 10 5))).loop)).seq (vX [MC 4 (i6 (-1))])))
theorem qCu:qI Tryz.prog 86 29 0 [RV.tmp 4] qDM:=fi Tryz.f86 [] jJ []
def qDO:C:=
 (vU [ON 4 (.nilo 0 1 9) []] (vU [⟨some 7,none,.bslc 1 1 0 9 [.str []] [],[]⟩,MV 5 7] ((vU [vO 6 0] (C.block 0 ((v6 8 6 0 0).seq ((C.block 1 (vU [MV 14 0,MV 15 6,O2 16 (.idxA 7)
 14 15,vN 17 2 16,LD 18 17,MV 19 1,BI 20 .eql 18 19] (vV 20 (vY [MV 21 5,MV 22 0,MV 23 6,O2 24 (.idxA 7) 22 23,vN 25 0 24,LD 26 25,⟨some 27,none,.bslc 2 1 1 9 [.str []]
 [(0,1)],[.t 26]⟩,O2 28 (.app 3 1 9 16) 21 27,MV 5 28])))).seq (vZ 12 6))).loop)).seq (vX [MV 29 5,MV 4 29]))))
theorem qCx:qI Tryz.prog 94 30 4 [RV.tmp 4] qDO:=fi Tryz.f94 [4,7,27,28] jJ []
def qDP:C:=
 (vU [O1 4 (.box 0 26) 0,vO 8 0] ((vU [vO 9 0] (C.block 0 ((vU [MV 10 9,vN 11 3 4,LD 12 11,O1 13 .len 12,BI 14 .lss 10 13] (vW 14 0)).seq ((C.block 1 (vU [vN 17 3 4,LD 18 17,MV
 19 9,O2 20 (.idxA 1) 18 19,LD 21 20,MV 22 2,O2 23 (.idxA 1) 21 22,LD 24 23,MV 25 3,BI 26 .eql 24 25] (vV 26 (vX [MV 27 1,MV 28 9,O2 29 (.call 86 true) 27 28,MV 8 29])))).seq
 (vZ 15 9))).loop)).seq (vX [MC 8 (i6 (-1))])))
theorem qCy:qI Tryz.prog 96 30 1 [RV.tmp 8] qDP:=fi Tryz.f96 [4] jJ []
def qDQ:C:=
 (vU [O1 2 (.box 0 26) 0,vO 4 0] ((vU [vO 5 0] (C.block 0 ((vU [MV 6 5,vN 7 1 2,LD 8 7,O1 9 .len 8,BI 10 .lss 6 9] (vW 10 0)).seq ((C.block 1 (vU [vN 13 1 2,LD 14 13,MV 15 5,O2
 16 (.idxA 1) 14 15,LD 17 16,MV 18 1,BI 19 .eql 17 18] (vV 19 (vX [MV 20 5,MV 4 20])))).seq (vZ 11 5))).loop)).seq (vX [MC 4 (i6 (-1))])))
theorem qCz:qI Tryz.prog 97 21 1 [RV.tmp 4] qDQ:=fi Tryz.f97 [2] jJ []
def qjQ:C:=
 (vU [O1 3 (.box 0 26) 0,O1 5 (.box 1 65) 2,vO 6 0] ((vU [vN 10 0 5,LD 11 10,vP 12 .neq 11 1,MV 13 12,P1 14 13 true (.fldA 0) 5,P1 15 13 true (.load none) 14,PC 16 13 true (.bin
 .neq) 15 (i6 2),PF 17 13 16,MV 18 17,P1 19 18 true (.fldA 0) 5,P1 20 18 true (.load none) 19,PC 21 18 true (.bin .neq) 20 (i6 3),PF 22 18 21] (vV 22 (vX [vO 6 8]))).seq ((vU
 [vN 23 3 5,LD 24 23,BC 25 .neq 24 (.str []),MV 26 25,P1 27 26 true (.fldA 0) 5,P1 28 26 true (.load none) 27,PC 29 26 true (.bin .neq) 28 (i6 2),PF 30 26 29] (vV 30 (vX [vO 6
 1]))).seq (vU [O1 31 (.load (some 4)) 3,vN 32 1 5,LD 33 32,O2 34 (.call 97 true) 31 33,MV 7 34] ((vU [MV 35 7,vP 36 .lss 35 0,MV 37 36,v7 38 37 2 5,v8 39 37 38,vT 40 37 (.bin
 .lss) 39 (i6 0),PT 41 37 40,MV 42 41,v7 43 42 2 5,v8 44 42 43,v7 45 42 2 3,v8 46 42 45,vS 47 42 7,vR 48 42 (.idxA 1) 46 47,v8 49 42 48,vQ 50 42 .len 49,vR 51 42 (.bin .geq) 44
 50,PT 52 42 51] (vV 52 (vX [vO 6 6]))).seq ((vU [O1 53 (.load (some 4)) 3,MV 54 1,MV 55 7,vN 56 2 5,LD 57 56,ON 58 (.call 96 true) [.t 53,.t 54,.t 55,.t 57],vP 59 .lss 58 0]
 (vV 59 (vX [vO 6 20]))).seq ((vU [vN 60 0 5,LD 61 60,vP 62 .eql 61 2] (vV 62 (vU [vN 64 3 5,LD 65 64,O1 66 (.call 166 true) 65,MV 63 66,O1 67 (.ext 0) 63,O1 68 (.ext 1) 63,MV 8
 67,MV 9 68] ((vU [MV 69 9,vP 70 .neq 69 0] (vV 70 (vX [MV 71 9,MV 6 71]))).seq (vU [MV 72 8,O1 73 .len 72,vP 74 .eql 73 0] (vV 74 (vX [vO 6 5]))))))).seq (vX [vO 6 0]))))))))
theorem qcv:qI Tryz.prog 98 75 2 [RV.tmp 6] qjQ:=fi Tryz.f98 [3,5] jJ []
def qBD:C:=
 (vU [O1 3 (.box 0 26) 0,O1 5 (.box 1 65) 2,vO 6 0] ((vU [O1 8 (.load (some 4)) 3,MV 9 1,O2 10 (.call 84 true) 8 9,MV 7 10] (vU [MV 11 7,vP 12 .neq 11 0] (vV 12 (vX [MV 13 7,MV 6
 13])))).seq (vX [O1 14 (.load (some 4)) 3,MV 15 1,O1 16 (.load (some 4)) 5,ON 17 (.call 98 true) [.t 14,.t 15,.t 16],MV 6 17])))
theorem qyG:qI Tryz.prog 37 18 2 [RV.tmp 6] qBD:=fi Tryz.f37 [3,5] jJ []
def qBC:C:=
 (vU [O1 3 (.box 0 26) 0,O1 5 (.box 1 65) 2,vO 6 0,vO 7 0] ((vU [O1 9 (.load (some 4)) 3,MV 10 1,O1 11 (.load (some 4)) 5,ON 12 (.call 37 true) [.t 9,.t 10,.t 11],MV 8 12] (vU
 [MV 13 8,vP 14 .neq 13 0] (vV 14 (vX [MV 15 8,vO 6 0,MV 7 15])))).seq (vX [O1 16 (.load (some 4)) 3,MV 17 1,O1 18 (.load (some 4)) 3,vN 19 1 5,LD 20 19,O2 21 (.call 97 true) 18
 20,vN 22 2 5,LD 23 22,ON 24 (.call 96 true) [.t 16,.t 17,.t 21,.t 23],MV 6 24,vO 7 0])))
theorem qyu:qI Tryz.prog 33 25 2 [RV.tmp 6,RV.tmp 7] qBC:=fi Tryz.f33 [3,5] jJ []
def qBc:C:=
 (vU [O1 3 (.box 0 26) 0,ON 6 (.nilo 1 1 51) [],vO 7 0] ((vU [O1 13 (.load (some 4)) 3,MV 14 1,O2 15 (.call 84 true) 13 14,MV 8 15] (vU [MV 16 8,vP 17 .neq 16 0] (vV 17 (vX [MV
 18 8,ON 6 (.nilo 1 1 51) [],MV 7 18])))).seq ((vU [O1 19 (.load (some 4)) 3,MV 20 1,MV 21 2,ON 22 (.call 85 true) [.t 19,.t 20,.t 21],MV 9 22] (vU [MV 23 9,vP 24 .neq 23 0] (vV
 24 (vX [MV 25 9,ON 6 (.nilo 1 1 51) [],MV 7 25])))).seq (vU [⟨some 26,none,.bslc 2 1 0 51 [.nl] [],[]⟩,MV 10 26] ((vU [vO 11 0] (C.block 0 ((v6 27 11 2 0).seq ((C.block 1 (vU
 [MV 33 11,vP 34 .add 33 1,MV 12 34] (C.block 2 ((v6 35 12 2 2).seq ((C.block 3 (vU [O1 41 (.load (some 4)) 3,MV 42 1,O1 43 (.load (some 4)) 3,MV 44 2,MV 45 11,O2 46 (.idxA 4)
 44 45,vN 47 1 46,LD 48 47,O2 49 (.call 97 true) 43 48,MV 50 2,MV 51 11,O2 52 (.idxA 4) 50 51,vN 53 2 52,LD 54 53,ON 55 (.call 96 true) [.t 41,.t 42,.t 49,.t 54],O1 56 (.load
 (some 4)) 3,MV 57 1,O1 58 (.load (some 4)) 3,MV 59 2,MV 60 12,O2 61 (.idxA 4) 59 60,vN 62 1 61,LD 63 62,O2 64 (.call 97 true) 58 63,MV 65 2,MV 66 12,O2 67 (.idxA 4) 65 66,vN 68
 2 67,LD 69 68,ON 70 (.call 96 true) [.t 56,.t 57,.t 64,.t 69],BI 71 .eql 55 70] (vV 71 (vY [MV 72 10,MV 73 11,MV 74 12,⟨some 75,none,.bslc 3 1 2 3 [i6 0] [(0,1),(1,1)],[.t
 73,.t 74]⟩,⟨some 76,none,.bslc 4 1 1 51 [.nl] [(0,1)],[.t 75]⟩,O2 77 (.app 5 1 51 24) 72 76,MV 10 77])))).seq (vZ 39 12))).loop))).seq (vZ 31 11))).loop)).seq ((vU [MV 78 10,O1
 79 .len 78,vP 80 .gtr 79 4096] (vV 80 (vX [ON 6 (.nilo 1 1 51) [],vO 7 4]))).seq (vX [MV 81 10,MV 6 81,vO 7 0])))))))
theorem qta:qI Tryz.prog 35 82 6 [RV.tmp 6,RV.tmp 7] qBc:=fi Tryz.f35 [3,6,26,75,76,77] jJ []
def qDC:C:=
 (vU [ON 2 (.nilo 0 1 9) []] (vU [⟨some 5,none,.bslc 1 1 0 9 [.str []] [],[]⟩,MV 3 5] ((vU [vO 4 0] (C.block 0 ((v6 6 4 0 0).seq ((C.block 1 (vY [MV 12 3,MV 13 0,MV 14 4,O2 15
 (.idxA 7) 13 14,vN 16 0 15,LD 17 16,⟨some 18,none,.bslc 2 1 1 9 [.str []] [(0,1)],[.t 17]⟩,O2 19 (.app 3 1 9 16) 12 18,MV 3 19])).seq (vZ 10 4))).loop)).seq (vX [MV 20 3,MV 2
 20]))))
theorem qCk:qI Tryz.prog 41 21 4 [RV.tmp 2] qDC:=fi Tryz.f41 [2,5,18,19] jJ []
def qwU:C:=
 (vU [O1 4 (.box 0 26) 0,ON 8 (.nilo 1 1 9) [],vO 9 0] ((vU [O1 11 (.load (some 4)) 4,MV 12 1,O2 13 (.call 84 true) 11 12,MV 10 13] (vU [MV 14 10,vP 15 .neq 14 0] (vV 15 (vX [MV
 16 10,ON 8 (.nilo 1 1 9) [],MV 9 16])))).seq ((vU [MV 17 3,vP 18 .lss 17 0,MV 19 18,vS 20 19 3,vS 21 19 1,vQ 22 19 .len 21,vR 23 19 (.bin .geq) 20 22,PT 24 19 23] (vV 24 (vX
 [ON 8 (.nilo 1 1 9) [],vO 9 20]))).seq (vX [MV 25 2,MV 26 3,O2 27 (.call 94 true) 25 26,MV 8 27,vO 9 0]))))
theorem qoL:qI Tryz.prog 40 28 2 [RV.tmp 8,RV.tmp 9] qwU:=fi Tryz.f40 [4,8] jJ []
def qDz:C:=
 (vU [MC 2 (.bool false)] ((vU [vO 3 0] (C.block 0 ((v6 4 3 0 0).seq ((C.block 1 (vU [MV 10 0,MV 11 3,O2 12 (.idxA 4) 10 11,vN 13 1 12,LD 14 13,O1 15 .slen 14,vP 16 .gtr 15 30,MV
 17 16,vS 18 17 0,vS 19 17 3,vR 20 17 (.idxA 4) 18 19,v7 21 17 3 20,v8 22 17 21,vQ 23 17 .slen 22,vT 24 17 (.bin .gtr) 23 (i6 30),PT 25 17 24] (vV 25 (vX [MC 2 (.bool
 true)])))).seq (vZ 8 3))).loop)).seq (vX [MV 26 0,O1 27 .len 26,vP 28 .gtr 27 6,MV 2 28])))
theorem qCh:qI Tryz.prog 31 29 0 [RV.tmp 2] qDz:=fi Tryz.f31 [] jJ []
def qDB:C:=
 (vU [MC 4 (.bool false)] ((vU [MV 6 0,O1 7 .len 6,MV 8 1,O1 9 .len 8,BI 10 .neq 7 9] (vV 10 (vX [MC 4 (.bool false)]))).seq ((vU [vO 5 0] (C.block 0 ((v6 11 5 0 0).seq ((C.block
 1 (vU [MV 17 0,MV 18 5,O2 19 (.idxA 1) 17 18,LD 20 19,MV 21 1,MV 22 5,O2 23 (.idxA 1) 21 22,LD 24 23,O2 25 (.call 99 true) 20 24,O1 26 (.un UnOp.not) 25] (vV 26 (vX [MC 4
 (.bool false)])))).seq (vZ 15 5))).loop)).seq (vX [MC 4 (.bool true)]))))
theorem qCj:qI Tryz.prog 38 27 0 [RV.tmp 4] qDB:=fi Tryz.f38 [] jJ []
end
section
open Go Go.Proofs AF HY LN
namespace RC
def gDc(d:List Dc)(i:Nat):Bool:=decide (30<(d.getD i default).sig.length)||decide (30<(d.getD i default).txt.length)
def qoV(d:List Dc):Bool:=jv (gDc d) d.length||decide (6<d.length)
theorem qy5(b:List Dc)(h:wh)(hn:b.length<=9223372036854775807):ACalls Tryz.prog 31 [kq b] h (.bool (qoV b)) h:=by
 obtain⟨R,hR⟩:=wg (qoV b)
 rw[<-hR];unfold qoV at hR;have zb:kq b= .sl b.length λi=>dcC (b.getD i default):=rfl
 refine acO qCh ?_;simp (disch:=omega) only[qDz,go_sem];refine qn (T:=λi:Nat=>qO 29 [(0,kq b),(3,.int .i64 i)]) (H:=λ_=>h) (inv:=λi=>i<=b.length∧ ∀j,j<i->gDc b j=false) (m:=λi=>b.length-i) 0 ⟨nzl _,λj hj=>absurd hj (nnz j)⟩ (Wk.temps ?_) ?_
 ·(simp only[go_sem,qf,qc,qa,qe];try exact we)
 rintro i ⟨i1,i2⟩ K hK
 by_cases hi:i<b.length
 ·have k1:((i:Int)<b.length)=True:=wl;have k0:(0<=(i:Int))=True:=wl;have hit:gDc b i=true->R=true:=λhc=>by rw[hR,qK.2 ⟨i,hi,hc⟩];rfl
  have i3:=λhc=>jx (p:=gDc b) i2 hc
  have hG:gDc b i=(decide (30<(b.getD i default).sig.length)||decide (30<(b.getD i default).txt.length)):=rfl;obtain⟨w,hw⟩:=wg (b.getD i default)
  have ew:=hw.symm;rw[ew]at hG
  by_cases g1:30<w.sig.length
  ·have q1:((30:Int)<w.sig.length)=True:=wl;rw[hit (by rw[hG,dqt g1];rfl)];simp (disch:=omega) only[zb,dcC,k0,k1,ew,q1,go_sem]
   repeat' first|exact wc|fail
  have q1:((30:Int)<w.sig.length)=False:=wm
  by_cases g2:30<w.txt.length
  ·have q2:((30:Int)<w.txt.length)=True:=wl;rw[hit (by rw[hG,dqt g2,Bool.or_true])];simp (disch:=omega) only[zb,dcC,k0,k1,ew,q1,q2,go_sem]
   repeat' first|exact wc|with_reducible apply aiA|exact clz|fail
  have q2:((30:Int)<w.txt.length)=False:=wm;simp (disch:=omega) only[zb,dcC,k0,k1,ew,q1,q2,go_sem]
  repeat' first|with_reducible apply aiA|exact clz|fail
  refine hK _ _ (i+1) ⟨hi,i3 (by rw[hG,dqf g1,dqf g2];rfl)⟩ om (Wk.temps ?_)
  (simp only[zb,dcC,go_sem,qf,qc,qa,qe];try exact we)
 obtain rfl:i=b.length:=by omega
 have k1:((b.length:Int)<b.length)=False:=wm;rw[qq.2 (λj hj=>i2 j hj),Bool.false_or]at hR
 by_cases g:6<b.length
 ·have q:((6:Int)<b.length)=True:=wl;rw[dqt g]at hR;rw[hR];simp (disch:=omega) only[zb,k1,q,go_sem]
  repeat' first|exact wc|fail
 ·have q:((6:Int)<b.length)=False:=wm;rw[dqf g]at hR;rw[hR];simp (disch:=omega) only[zb,k1,q,go_sem]
  repeat' first|exact wc|fail
theorem qkX{d:List Dc}(h:qoV d=false):d.length<=6∧(∀j,(d.getD j default).sig.length<=30)∧ ∀o∈d,o.txt.length<=30:=by
 unfold qoV at h;rw[Bool.or_eq_false_iff,decide_eq_false_iff_not]at h;have key: ∀i,i<d.length-> ¬30<(d.getD i default).sig.length∧ ¬30<(d.getD i default).txt.length:=λi hi=>by
  have:=qq.1 h.1 i hi
  unfold gDc at this;rw[Bool.or_eq_false_iff,decide_eq_false_iff_not,decide_eq_false_iff_not]at this;exact this
 refine⟨om,jA d (λd=>d.sig.length<=30) (by decide) λi hi=>by have:=(key i hi).1;omega,λo ho=> ?_⟩;obtain⟨i,hi,rfl⟩:=List.getElem_of_mem ho
 have:=(key i hi).2
 rw[gdqA,zz hi]at this;simp only[Option.getD_some]at this;omega
structure Cq where
 x:Co
 l:List Un
 d:List Dc
 lead:Int
def cqC(a:Cq):wj:= [.str a.x.sec,strs a.x.sig,qm a.x.tok,qu a.x.col,ze a.l,kq a.d,.int .i64 a.lead]
structure CqB (a:Cq):Prop where
 x:CoB a.x
 l:UnB a.l
 d:a.d.length<=9223372036854775807
def qy0(a:Cq):Bool:=qti a.x||(qtj a.l||qoV a.d)
structure CqS (a:Cq):Prop where
 x:qad a.x
 l:qbK a.l
 cl:a.x.col.length<=24
 sl:a.x.sig.length<=36
 ll:a.l.length<=12
 d:a.d.length<=6
 g: ∀j,(a.d.getD j default).sig.length<=30
 t: ∀o∈a.d,o.txt.length<=30
theorem qy1{a:Cq}(h:qy0 a=false):CqS a:=by
 unfold qy0 at h;rw[Bool.or_eq_false_iff,Bool.or_eq_false_iff]at h;obtain⟨h1,h2,h3⟩:=h;obtain⟨o1,o2,o3⟩:=qrs h1;obtain⟨u1,u2⟩:=qrt h2;obtain⟨d1,d2,d3⟩:=qkX h3;exact⟨o1,u1,o2,o3,u2,d1,d2,d3⟩
theorem qBU(h:wh):ACalls Tryz.prog 71 [.nl] h .nl h:=by
 refine acO qtc ?_;simp (disch:=omega) only[qBe,go_sem]
 repeat' first|exact wa|fail
theorem qFe(a:Int)(h:wh):ACalls Tryz.prog 68 [qv [a],.int .i64 0] h (qv []) h:=by
 have s1:=λh=>qg0 h [a]
 have c1:=λh=>qDX 0 h om
 have z1: ∀g,valL g .len [qv [a]]= .int .i64 1:=λ_=>rfl
 have z2: ∀g,okL g .len [qv [a]]=True:=λ_=>eqt trivial
 have e5:IntKind.u64.wrap 1=1:=by decide
 have e6:IntKind.u64.wrap 0=0:=by decide
 rw[show ((0:Nat):Int)=0 from rfl]at c1;refine acO qyP ?_;simp (disch:=omega) only[qBG,z1,z2,e5,e6,go_sem]
 repeat' first|(refine cA (c1 _) flk ?_;simp (disch:=omega) only[s1,go_sem])|(with_reducible first|intro _|apply aiA)|exact clz|fail
 ·rfl
 refine qn (T:=λ_:Unit=>qO 48 [(7,.osl (h.length+1) 1 1 0 0),(8,.int .i64 0)]) (H:=λ_=>h++ [.emp 1,.mem 1 3 []])
  (inv:=λ_=>True) (m:=λ_=>0) () trivial (Wk.temps ?_) ?_
 ·(simp only[go_sem,qf,qc,qa,qe];try exact we)
 rintro⟨⟩-K hK;have q1:((0:Int)<0)=False:=wm;simp (disch:=omega) only[go_sem]
 repeat' first|(apply qb;exact rvk;simp only[go_sem])|(with_reducible first|intro _|apply aiA)|exact clz|fail
 exact VLe.sl_eq rfl (λi hi=>absurd hi (nnz _))
theorem qzU{hh:wh}{j v:Nat}(a:Int)(cs:wj)(hj:qt j hh=some (.mem v 3 (.int .i64 a::cs))):
  ACalls Tryz.prog 68 [.osl j v 1 0 1,.int .i64 0] hh (qv []) (qr j hh (.emp (v+1))):=by
 have hs:qy hh j=true:=by unfold qy;rw[hj]
 have e1:qa5 [j] hh=qr j hh (.emp (v+1)):=by show qr j hh (.emp (qo (qt j hh)+1))=_;rw[hj];rfl
 refine ACalls.frzd [j] (by show (qy hh j&&true)=true;rw[hs];rfl) ?_;rw[e1];refine (qFe a _).le ⟨?_,qi,trivial⟩ (qi);have hc:=qR hj;have e: [j].contains j=true:=by simp
 simp only[go_sem,e,if_true,hc];rw[hj,slOf_mem,ipo ⟨rfl,by simp⟩];refine VLe.sl_eq rfl (λi hi=> ?_);obtain rfl:i=0:=by omega
 rfl
theorem qB9(x:Co)(d:List Dc)(s:Int)(h:wh)(hz:qad x)(hp:kt SG h)(hg:zT h frmN frmC)(hd:d.length<=1000000)(ht: ∀o∈d,o.txt.length<=1000)(hN0:vaE x []=0->(rwA x [] d s.toNat).length<=1000000000):
  ACalls Tryz.prog 17 [.agg (coC x),.nl,kq d,.int .i64 s] h (.tup [kn (esR x [] d s),.int .i64 (esE x [] d s)]) h:=by
 have hu:qbK []:=⟨by simp,λi=>by simp;exact nzl _,λi j=>by simp;exact nzl _,λi j=>by simp;exact nzl _⟩
 have c1:=λl'=>(qhu x [] (h++l') hz hu (hp.app l')).le (args:= [.agg (coC x),.nl]) ⟨qi,qP,trivial⟩ (qi)
 have zu: ∀g l,valL g .len [ze l]= .int .i64 l.length:=λ_ _=>rfl
 have zv: ∀g l,okL g .len [ze l]=True:=λ_ _=>eqt trivial
 have zu1: ∀g l,valL g .len [strs l]= .int .i64 l.length:=λ_ _=>rfl
 have zv1: ∀g l,okL g .len [strs l]=True:=λ_ _=>eqt trivial
 have hE:esE x [] d s=(if vaE x []≠0 then vaE x [] else if s<0∨(x.sig.length:Int)<=s then 2 else if KD x [] d≠0 then KD x [] d else if 1024<(rwA x [] d s.toNat).length then 4 else 0):=rfl;unfold esR
 by_cases g:vaE x []=0
 case neg=>
  have k1:(vaE x []=0)=False:=eqf g;rw[ipo g]at hE;rw[hE,ine g];unfold coC at c1;refine acO qah ?_;simp (disch:=omega) only[qe5,coC,go_sem]
  repeat' first|(refine cA (c1 _) flk ?_;simp (disch:=omega) only[k1,go_sem])|(apply qb;exact rvk;simp only[go_sem])
  exact VLe.tup ⟨qP,qi,trivial⟩
 rw[ine (by simpa using g)]at hE;have hN:=hN0 g;simp only[g]at c1;obtain⟨hca,hus,hcv⟩:=qhb g;have ho:=W0 hca
 by_cases g2:s<0
 ·have k2:(s<0)=True:=eqt g2;rw[ipo (.inl g2)]at hE;rw[hE,ine (by decide)];unfold coC at c1;refine acO qah ?_;simp (disch:=omega) only[qe5,coC,go_sem]
  repeat' first|(refine cA (c1 _) flk ?_;simp (disch:=omega) only[k2,go_sem])|(apply qb;exact rvk;simp only[go_sem])
  exact VLe.tup ⟨qP,qi,trivial⟩
 have k2:(s<0)=False:=eqf g2
 by_cases g3:(x.sig.length:Int)<=s
 ·have k3:((x.sig.length:Int)<=s)=True:=eqt g3;rw[ipo (.inr g3)]at hE;rw[hE,ine (by decide)];unfold coC at c1;refine acO qah ?_;simp (disch:=omega) only[qe5,coC,go_sem]
  repeat' first|(refine cA (c1 _) flk ?_;simp (disch:=omega) only[k2,k3,zu1,zv1,go_sem])|(apply qb;exact rvk;simp only[go_sem])
  exact VLe.tup ⟨qP,qi,trivial⟩
 have k3:((x.sig.length:Int)<=s)=False:=eqf g3;rw[ine (λe=>e.elim g2 g3)]at hE;have c2:=λl'=>(qBk x [] d (h++l') hz hu (hp.app l') hg.app hca hd ht).le (args:= [.agg (coC x),.nl,kq d]) ⟨qi,qP,qi,trivial⟩ (qi)
 unfold qve at c2
 by_cases g4:KD x [] d=0
 case neg=>
  have k4:(KD x [] d=0)=False:=eqf g4;simp only[ine g4]at c2;rw[ipo g4]at hE;rw[hE,ine g4];unfold coC at c1 c2;refine acO qah ?_;simp (disch:=omega) only[qe5,coC,go_sem]
  repeat' first|((first|refine cA (c1 _) ?_ ?_|refine cA (c2 _) ?_ ?_);exact flk;simp (disch:=omega) only[k2,k3,k4,zu1,zv1,go_sem])|(apply qb;exact rvk;simp only[go_sem])|with_reducible apply aiA|exact clz|fail
  exact VLe.tup ⟨qP,qi,trivial⟩
 rw[ine (by simpa using g4)]at hE;simp only[g4,if_true]at c2;rw[hE];unfold coC at c1 c2;refine acO qah ?_;simp (disch:=omega) only[qe5,coC,go_sem]
 repeat' first|((first|refine cA (c1 _) ?_ ?_|refine cA (c2 _) ?_ ?_);exact flk;simp (disch:=omega) only[k2,k3,zu1,zv1,go_sem])|with_reducible apply aiA|exact clz|fail
 have hd0:d= []:=by
  cases d with
  |nil=>rfl
  |cons o r=>
   exfalso
   have:=g4
   unfold KD at this;split at this
   ·cases this
   ·have h0:=jS.1 this 0 (by simp);have h1:=(UO h0).2.2.2.2.1;have h2:kF x [] ((o::r).getD 0 default)= -1:=rfl;omega
 subst hd0;have zi: ∀g l,valL g .len [qv l]= .int .i64 l.length:=λ_ _=>rfl
 have zj: ∀g l,okL g .len [qv l]=True:=λ_ _=>eqt trivial
 have ePL:(plG x [] [] ([]:List Dc).length).length=0:=rfl;refine qz (qzU (j:=h.length+2) (-1) (List.drop 1 (zk [.int .i64 0] 1)) ?j1) (by exact flk) ?_
 case j1=>simp only[go_sem]
 simp (disch:=omega) only[zi,zj,go_sem];refine qn (T:=λ_:Unit=>qO 154 [(1,.nl),(3,.int .i64 s),(4,.op h.length 1 0),(13,qv []),(56,.int .i64 0),(57,.int .i64 0)])
  (H:=λ_=>h++ [.mem 1 26 [.str x.sec,strs x.sig,qm x.tok,qu x.col],.emp 1,.emp 2,.emp 0,.emp 0,.emp 0,.emp 0,.emp 0,.emp 0,.emp 0,.emp 0,.emp 0,.emp 0,.emp 0,.emp 0,.emp 0])
  (inv:=λ_=>True) (m:=λ_=>0) () trivial (Wk.temps ?_) ?_
 ·(simp only[go_sem,qf,qc,qa,qe];try exact we)
 rintro⟨⟩-K hK;have q1:((0:Int)<0)=False:=wm;simp (disch:=omega) only[q1,go_sem];refine⟨_,_,Wk.ownNil (j:=h.length+3) (i:=0) (k:=h.length+15) (v:=1) (ty:=45) (cs:= [.nl]) (ve:=0) (sz:=7) ?m1 rfl ?m2,?_⟩
 case m1=>simp only[go_sem]
 case m2=>simp only[go_sem]
 simp (disch:=omega) only[List.set_cons_zero,go_sem];have bne5:(h.length+6 !=h.length+5)=true:=by simp
 have zc: ∀g l,valL g .len [qu l]= .int .i64 l.length:=λ_ _=>rfl
 have zd: ∀g l,okL g .len [qu l]=True:=λ_ _=>eqt trivial
 refine kg ?T ?H ?h1 ?h2
 case h1=>
  simp (disch:=omega) only[zc,zd,go_sem]
  repeat' first|(with_reducible apply aiA)|(refine qz (qBU _) (by exact flk) ?_;simp (disch:=omega) only[zc,zd,go_sem])
  all_goals first
   |omega
   |rfl
   |exact bne5
 case h2=>
 simp (disch:=omega) only[go_sem];obtain⟨S,hS⟩: ∃S:Nat,s=S:=⟨s.toNat,om⟩
 subst hS;rw[itn]at hN ⊢;have hSl:S<x.sig.length:=by omega
 obtain⟨MC,hMC⟩:=wg ( [AV.int .i64 x.col.length,.int .i64 x.col.length,.nl])
 rw[<-hMC];obtain⟨O5,hO5⟩:=wg (AObj.mem 1 39 (AV.int .i64 x.col.length:: .int .i64 x.col.length:: .nl::List.drop 3 (zk [.int .i64 0,.int .i64 0,.nl] 1)))
 rw[<-hO5];obtain⟨X0,hX0⟩:=wg (AObj.mem 1 26 [.str x.sec,strs x.sig,qm x.tok,qu x.col])
 have lX0: ∀n,lowO n X0:=by
  intro n;rw[hX0];intro c hc;simp at hc;rcases hc with rfl|rfl|rfl|rfl<;>rfl
 refine qn (T:=λi:EsS=>qO 154 [(1,.nl),(3,.int .i64 (S:Int)),(4,.op h.length 1 0),(13,qv []),(16,.op (h.length+3) 1 0),(17,.op (h.length+4) 1 0),(18,.int .i64 (nxT x [] i.k:Int)),(78,.osl (h.length+6) 1 3 0 1),(79,.int .i64 1),(80,.int .i64 i.k)])
  (H:=λi=>h++ [.mem 1 26 [.str x.sec,strs x.sig,qm x.tok,qu x.col],.emp 1,.emp 2,.mem 1 45 [.osl (h.length+15) i.vb 7 0 (rwK x [] [] S i.k).length],.mem 1 135 [.fn (.func 69) [] [.op (h.length+3) 1 0]],O5,.mem 1 39 MC,i.O7,i.O8,i.O9,i.O10,i.O11,i.O12,.emp 0,.emp 0,zg i.vb 133 (jD (bsW (rwK x [] [] S i.k)))])
  (inv:=λi=>i.k<=1∧ ∀O∈ [i.O7,i.O8,i.O9,i.O10,i.O11,i.O12],qy [O] 0=true∧ ∀n,lowO n O) (m:=λi=>1-i.k) ⟨0,0,.emp 0,.emp 0,.emp 0,.emp 0,.emp 0,.emp 0⟩ ⟨nzl _,λO hO=>by
   simp at hO;subst hO;exact⟨rfl,λ_=>trivial⟩⟩ (Wk.temps ?_) ?_
 ·(simp only[go_sem,qf,qc,qa,qe];try (repeat' first|(with_reducible apply aiA)|(apply qg;omega)|(apply qd;rfl)|exact qi))
  done
 rintro⟨k,vb,O7,O8,O9,O10,O11,O12⟩ ⟨i1,i2⟩ K hK;simp only at i1 i2 hK;obtain⟨s7,l7⟩:=i2 O7 (by simp);obtain⟨s8,l8⟩:=i2 O8 (by simp);obtain⟨s9,l9⟩:=i2 O9 (by simp);obtain⟨s10,l10⟩:=i2 O10 (by simp);obtain⟨s11,l11⟩:=i2 O11 (by simp);obtain⟨s12,l12⟩:=i2 O12 (by simp);have s7': ∀m,qy (O7::m) 0=true:=λ_=>s7
 have s8': ∀m,qy (O8::m) 0=true:=λ_=>s8
 by_cases hk:k<=0
 case neg=>
  have q1:((k:Int)<(1:Int))=False:=wm;have eR:rwK x [] [] S k=rwA x [] [] S:=by unfold rwK;rw[lnl,ine hk]
  rw[eR]
  by_cases g5:1024<(rwA x [] [] S).length
  ·have q5:((1024:Int)<(rwA x [] [] S).length)=True:=wl;simp only[ipo g5];simp (disch:=omega) only[q1,q5,go_sem]
   repeat' first|(apply qb;exact rvk;simp only[go_sem])|with_reducible apply aiA|exact clz|fail
   exact VLe.tup ⟨qP,qi,trivial⟩
  ·have q5:((1024:Int)<(rwA x [] [] S).length)=False:=wm;simp only[ine g5];simp (disch:=omega) only[q1,q5,go_sem]
   repeat' first|(apply qb;exact rvk;simp only[go_sem])|with_reducible apply aiA|exact clz|fail
   exact VLe.tup ⟨qdM (qaf _).symm,qi,trivial⟩
 have q1:((k:Int)<(1:Int))=True:=wl;have q2:(0<=(k:Int))=True:=wl;have hk0:k=0:=by omega
 have hMl:MC.length=3:=by rw[hMC];rfl
 have q3:(k*3+3<=MC.length)=True:=wl;have eR:rwK x [] [] S k=rwL x [] [] S k:=by unfold rwK;rw[lnl,ipo hk]
 have eN:nxT x [] k=ku [] k:=by unfold nxT;rw[lnl,ipo hk]
 rw[eR,eN];obtain⟨f,hf⟩:=wg x.col.length
 obtain⟨t',ht'⟩:=wg x.col.length
 obtain⟨RV,hRV⟩:=wg AV.nl
 have eM:List.take 3 (List.drop (k*3) MC)= [.int .i64 (f:Int),.int .i64 (t':Int),RV]:=by rw[hk0,hMC,hf,ht',hRV];rfl
 have a5:ku [] k<=f:=by rw[hk0];exact nzl _
 have a6:f<=x.col.length:=by omega
 have lRV: ∀n,qT n RV=true:=λn=>by rw[hRV];rfl
 have c3:=λh=>qAd x (ku [] k) f S h
 have hit:=itS x S (ku [] k) f hz ho hSl a6 a5;have hpF:=UM ho hSl (f:=ku [] k) (d:=f-ku [] k) om;obtain⟨ps,hps⟩:=wg (spk x S (ku [] k) (f-ku [] k))
 have hxl:(spX x S (ku [] k) (f-ku [] k))=ps.map λp=> [.agg (pcC p)]:=by unfold spX;rw[hps]
 rw[hxl]at hit;rw[<-hps]at hpF;unfold coC at c3 hit;simp (disch:=omega) only[q1,q2,q3,eM,s7',s8',go_sem]
 repeat' first|(refine cA (c3 _) flk ?_;simp (disch:=omega) only[go_sem])|with_reducible apply aiA|exact clz|fail
 obtain⟨L0,hL0⟩:=wg (rwL x [] [] S k)
 have hLF: ∀r∈L0,PcF r.p:=by rw[hL0];exact qfA ho hus hSl (λi hi=>absurd hi (by simp)) hk
 have hLn:(L0++rwM ps (-1) (-1)).length<=1000000000:=by
  refine Nat.le_trans ?_ hN;rw[hL0,hps,hf,hk0];exact nlr _
 rw[<-hL0];obtain⟨P7,hP7⟩:=wg (AObj.mem (qo (some O7)+1) 3 [.int .i64 (k:Int)])
 obtain⟨P8,hP8⟩:=wg (AObj.mem (qo (some O8)+1) 39 [.int .i64 (f:Int),.int .i64 (t':Int),RV])
 have hP7l:qy [P7] 0=true∧ ∀n,lowO n P7:=by
  rw[hP7];refine⟨rfl,λn c hc=> ?_⟩;rw[List.mem_singleton]at hc;subst hc;rfl
 have hP8l:qy [P8] 0=true∧ ∀n,lowO n P8:=by
  rw[hP8];refine⟨rfl,λn c hc=> ?_⟩;simp only[List.mem_cons,List.not_mem_nil,or_false]at hc;rcases hc with rfl|rfl|rfl
  ·rfl
  ·rfl
  ·exact lRV n
 have cP7: ∀m,cellsOf (P7::m) 0 (qo (some O7)+1)=some [.int .i64 (k:Int)]:=λm=>by rw[hP7];simp only[go_sem]
 rw[<-hP7,<-hP8];have lP: ∀L:List Rw,∀v n,lowO n (zg v 133 (jD (bsW L))):=λL v n=>jy (qb0 _ n)
 have hLow: ∀(L M:List Rw) (v w:Nat) O A,(∀n,lowO n A)->LowI (h++ [.mem 1 26 [.str x.sec,strs x.sig,qm x.tok,qu x.col],.emp 1,.emp 2,.mem 1 45 [.osl (h.length+15) w 7 0 M.length],.mem 1 135 [.fn (.func 69) [] [.op (h.length+3) 1 0]],O5,.mem 1 39 MC,P7,P8,O,O10,O11,O12,.emp 0,.emp 0,zg w 133 (jD (bsW M))])
   (h++ [.mem 1 26 [.str x.sec,strs x.sig,qm x.tok,qu x.col],.emp 1,.emp 2,.mem 1 45 [.osl (h.length+15) v 7 0 L.length],.mem 1 135 [.fn (.func 69) [] [.op (h.length+3) 1 0]],O5,.mem 1 39 MC,P7,P8,A,O10,O11,O12,.emp 0,.emp 0,zg v 133 (jD (bsW L))]):=λL M v w O A lA=>by
  refine⟨by simp,λo ho=> ?_⟩;rcases List.mem_append.1 ho with h1|h1
  ·exact .inl (List.mem_append_left _ h1)
  ·simp only[List.mem_cons,List.not_mem_nil,or_false]at h1;rcases h1 with rfl|rfl|rfl|rfl|rfl|rfl|rfl|rfl|rfl|rfl|rfl|rfl|rfl|rfl|rfl|rfl
   ·left;simp
   ·left;simp
   ·left;simp
   ·right;refine⟨λc hc=> ?_,λc hc=> ?_⟩<;>
    ·rw[List.mem_singleton]at hc;subst hc;simp[qT]
     try omega
   ·left;simp
   ·left;simp
   ·left;simp
   ·left;simp
   ·left;simp
   ·right;exact⟨lA _,lA _⟩
   ·left;simp
   ·left;simp
   ·left;simp
   ·left;simp
   ·left;simp
   ·right;exact⟨lP _ _ _,lP _ _ _⟩
 refine zE hit (λa ha=> ?_)
  (S:=λi hh=> ∃A,qy [A] 0=true∧(∀n,lowO n A)∧hh=h++ [.mem 1 26 [.str x.sec,strs x.sig,qm x.tok,qu x.col],.emp 1,.emp 2,.mem 1 45 [.osl (h.length+15) (vb+i) 7 0 (L0++rwM (ps.take i) (-1) (-1)).length],.mem 1 135 [.fn (.func 69) [] [.op (h.length+3) 1 0]],O5,.mem 1 39 MC,P7,P8,A,O10,O11,O12,.emp 0,.emp 0,zg (vb+i) 133 (jD (bsW (L0++rwM (ps.take i) (-1) (-1))))]) (E:=λ_ _=>False) ?_ ?_ ?_ ?_ ?_ ?_ ?_
 ·obtain⟨c,_,rfl⟩:=List.mem_map.1 ha;rfl
 ·rintro i hh ⟨A,_,lA,rfl⟩;exact hLow _ _ _ _ _ _ lA
 ·intro s hh hf;exact hf.elim
 ·exact⟨O9,s9,l9,by simp[rwM]⟩
 ·simp[qT,qT.lowVs]
  repeat' apply aiA
  all_goals first|rfl|omega|exact lRV _
 ·rintro i hh tl LI TS hi ⟨A,sA,lA,rfl⟩ hlen K1 K2 hK1 hN1 hR1 hX1;have hi':i<ps.length:=by rw[List.length_map]at hi;exact hi
  rw[List.getElem_map];have sA': ∀m,qy (A::m) 0=true:=λ_=>sA
  have hS:L0++rwM (ps.take (i+1)) (-1) (-1)=(L0++rwM (ps.take i) (-1) (-1))++ [⟨ps.getD i default,-1,-1⟩]:=by
   unfold rwM;rw[List.take_add_one,zz hi',List.map_append,gdqA,zz hi',List.append_assoc];rfl
  have eG:ps[i]=ps.getD i default:=by rw[gdqA,zz hi'];rfl
  rw[eG];have hpm:ps.getD i default∈ps:=jf hi';obtain⟨p,hp'⟩:=wg (ps.getD i default)
  rw[<-hp']at hS hpm ⊢;obtain⟨M,hM⟩:=wg (L0++rwM (ps.take i) (-1) (-1))
  have hMF: ∀r∈M,PcF r.p:=λr hr=>by
   rw[hM]at hr;rcases List.mem_append.1 hr with hr|hr
   ·exact hLF r hr
   ·exact hpF _ (List.mem_of_mem_take (kZ.1 hr).1)
  have hMn:M.length<=1000000000:=by
   rw[hM,lap,jM,List.length_take];rw[lap,jM]at hLn;omega
  rw[<-hM]at hS ⊢;simp only[kK,List.append_assoc,lca,lna];simp (disch:=omega) only[sA',pcC,tkC,go_sem];refine hK1 _ _ (h++ [.mem 1 26 [.str x.sec,strs x.sig,qm x.tok,qu x.col],.emp 1,.emp 2,.mem 1 45 [.osl (h.length+15) (vb+i) 7 0 M.length],.mem 1 135 [.fn (.func 69) [] [.op (h.length+3) 1 0]],O5,.mem 1 39 MC,P7,P8,(.mem (qo (some A)+1) 131 (pcC p)),O10,O11,O12,.emp 0,.emp 0,zg (vb+i) 133 (jD (bsW M))]) ?_ ?_ ?_
  ·simp[pcC,tkC]
  ·simp
  ·simp only[List.append_assoc,lca,lna];simp (disch:=omega) only[pcC,tkC,go_sem]
   repeat' first|with_reducible apply aiA|exact clz|fail
   refine ky (qvp (a:=h.length+3) (b:=h.length+15) (c:=h.length) (va:=1) (vb:=vb+i) (Z:= .mem 1 26 [.str x.sec,strs x.sig,qm x.tok,qu x.col]) ⟨by simp,by simp,by simp,om,om,om⟩ M p (-1) (-1) (by simp only[go_sem]) (by simp only[go_sem]) (by simp only[go_sem]) (by rw[<-hX0];exact lX0) (hpF p hpm) hMn hMF) ?_;simp (disch:=omega) only[go_sem];refine hN1 _ _ (h++ [.mem 1 26 [.str x.sec,strs x.sig,qm x.tok,qu x.col],.emp 1,.emp 2,.mem 1 45 [.osl (h.length+15) (vb+(i+1)) 7 0 (M++ [(⟨p,-1,-1⟩:Rw)]).length],.mem 1 135 [.fn (.func 69) [] [.op (h.length+3) 1 0]],O5,.mem 1 39 MC,P7,P8,(.mem (qo (some A)+1) 131 (pcC p)),O10,O11,O12,.emp 0,.emp 0,zg (vb+(i+1)) 133 (jD (bsW (M++ [(⟨p,-1,-1⟩:Rw)])))]) ?_ ?_ ⟨_,rfl,?_,by rw[hS]⟩
   ·simp[pcC,tkC,Nat.add_assoc]
   ·simp
   ·intro n c hc;simp[pcC,tkC]at hc;rcases hc with rfl|rfl|rfl|rfl|rfl|rfl|rfl<;>rfl
 ·rintro hh ⟨A,sA,lA,rfl⟩;rw[List.length_map,List.take_length];obtain⟨L1,hL1⟩:=wg (L0++rwM ps (-1) (-1))
  rw[<-hL1]
  by_cases hkl:k<0
  case neg=>
   have hke:k=0:=by omega
   obtain⟨b1,b2⟩:f=x.col.length∧t'=x.col.length:=⟨hf,ht'⟩
   have q4:((k:Int)=0)=True:=wl;rw[hP7,hP8];simp (disch:=omega) only[q4,go_sem]
   repeat' first|with_reducible apply aiA|exact clz|fail
   rw[<-hP7,<-hP8];have e1:rwK x [] [] S (k+1)=L1:=by
    unfold rwK;rw[ine (by simp),hL1,hL0,hps,b1,hke];rfl
   have e2:nxT x [] (k+1)=t':=by unfold nxT;rw[ine (by simp),b2]
   refine hK _ _ ⟨k+1,vb+ps.length,P7,P8,A,O10,O11,O12⟩ ⟨by simp only;omega,λO hO=> ?_⟩ (by simp only;omega) ?_
   ·simp only[List.mem_cons,List.not_mem_nil,or_false]at hO;rcases hO with rfl|rfl|rfl|rfl|rfl|rfl
    ·exact hP7l
    ·exact hP8l
    ·exact⟨sA,lA⟩
    ·exact⟨s10,l10⟩
    ·exact⟨s11,l11⟩
    ·exact⟨s12,l12⟩
   ·simp only[e1,e2];refine Wk.temps ?_
    (simp only[go_sem,qf,qc,qa,qe];try exact we)
  exact absurd hkl (nnz k)
 ·intro e hh hf;exact hf.elim
theorem qBV(h:wh)(k:Nat)(hk:qy h k=true):ACalls Tryz.prog 71 [.el] h (.osl k (qo (qt k h)+1) 3 0 0) (qr k h (.mem (qo (qt k h)+1) 39 [])):=by
 refine qfb qtc k (by simp) ?_;simp only[lco,lnl,Nat.reduceAdd,Nat.reduceSub,List.replicate,lca,lna];simp (disch:=omega) only[qBe,go_sem]
 repeat' first|(with_reducible apply aiA)
 all_goals first
  |omega
  |contradiction
  |skip
 all_goals try rfl
 exact⟨h.length+1,2,3,0,0,39,[],_,⟨trivial,trivial⟩,rfl,rfl,om,by simp only[go_sem],(λc hc=>by cases hc),hk,rfl,rfl⟩
theorem qCa(x:Co)(d:List Dc)(s:Int)(h:wh)(hz:qad x)(hp:kt SG h)(hg:zT h frmN frmC)(hd:d.length<=1000000)(ht: ∀o∈d,o.txt.length<=1000)(hN0:vaE x []=0->(rwA x [] d s.toNat).length<=1000000000):
  ACalls Tryz.prog 17 [.agg (coC x),.el,kq d,.int .i64 s] h (.tup [kn (esR x [] d s),.int .i64 (esE x [] d s)]) h:=by
 have hu:qbK []:=⟨by simp,λi=>by simp;exact nzl _,λi j=>by simp;exact nzl _,λi j=>by simp;exact nzl _⟩
 have c1:=λl'=>(qhu x [] (h++l') hz hu (hp.app l')).le (args:= [.agg (coC x),.el]) ⟨qi,qqQ,trivial⟩ (qi)
 have zu: ∀g l,valL g .len [ze l]= .int .i64 l.length:=λ_ _=>rfl
 have zv: ∀g l,okL g .len [ze l]=True:=λ_ _=>eqt trivial
 have zu1: ∀g l,valL g .len [strs l]= .int .i64 l.length:=λ_ _=>rfl
 have zv1: ∀g l,okL g .len [strs l]=True:=λ_ _=>eqt trivial
 have hE:esE x [] d s=(if vaE x []≠0 then vaE x [] else if s<0∨(x.sig.length:Int)<=s then 2 else if KD x [] d≠0 then KD x [] d else if 1024<(rwA x [] d s.toNat).length then 4 else 0):=rfl;unfold esR
 by_cases g:vaE x []=0
 case neg=>
  have k1:(vaE x []=0)=False:=eqf g;rw[ipo g]at hE;rw[hE,ine g];unfold coC at c1;refine acO qah ?_;simp (disch:=omega) only[qe5,coC,go_sem]
  repeat' first|(refine cA (c1 _) flk ?_;simp (disch:=omega) only[k1,go_sem])|(apply qb;exact rvk;simp only[go_sem])
  exact VLe.tup ⟨qP,qi,trivial⟩
 rw[ine (by simpa using g)]at hE;have hN:=hN0 g;simp only[g]at c1;obtain⟨hca,hus,hcv⟩:=qhb g;have ho:=W0 hca
 by_cases g2:s<0
 ·have k2:(s<0)=True:=eqt g2;rw[ipo (.inl g2)]at hE;rw[hE,ine (by decide)];unfold coC at c1;refine acO qah ?_;simp (disch:=omega) only[qe5,coC,go_sem]
  repeat' first|(refine cA (c1 _) flk ?_;simp (disch:=omega) only[k2,go_sem])|(apply qb;exact rvk;simp only[go_sem])
  exact VLe.tup ⟨qP,qi,trivial⟩
 have k2:(s<0)=False:=eqf g2
 by_cases g3:(x.sig.length:Int)<=s
 ·have k3:((x.sig.length:Int)<=s)=True:=eqt g3;rw[ipo (.inr g3)]at hE;rw[hE,ine (by decide)];unfold coC at c1;refine acO qah ?_;simp (disch:=omega) only[qe5,coC,go_sem]
  repeat' first|(refine cA (c1 _) flk ?_;simp (disch:=omega) only[k2,k3,zu1,zv1,go_sem])|(apply qb;exact rvk;simp only[go_sem])
  exact VLe.tup ⟨qP,qi,trivial⟩
 have k3:((x.sig.length:Int)<=s)=False:=eqf g3;rw[ine (λe=>e.elim g2 g3)]at hE;have c2:=λl'=>(qBk x [] d (h++l') hz hu (hp.app l') hg.app hca hd ht).le (args:= [.agg (coC x),.el,kq d]) ⟨qi,qqQ,qi,trivial⟩ (qi)
 unfold qve at c2
 by_cases g4:KD x [] d=0
 case neg=>
  have k4:(KD x [] d=0)=False:=eqf g4;simp only[ine g4]at c2;rw[ipo g4]at hE;rw[hE,ine g4];unfold coC at c1 c2;refine acO qah ?_;simp (disch:=omega) only[qe5,coC,go_sem]
  repeat' first|((first|refine cA (c1 _) ?_ ?_|refine cA (c2 _) ?_ ?_);exact flk;simp (disch:=omega) only[k2,k3,k4,zu1,zv1,go_sem])|(apply qb;exact rvk;simp only[go_sem])|with_reducible apply aiA|exact clz|fail
  exact VLe.tup ⟨qP,qi,trivial⟩
 rw[ine (by simpa using g4)]at hE;simp only[g4,if_true]at c2;rw[hE];unfold coC at c1 c2;refine acO qah ?_;simp (disch:=omega) only[qe5,coC,go_sem]
 repeat' first|((first|refine cA (c1 _) ?_ ?_|refine cA (c2 _) ?_ ?_);exact flk;simp (disch:=omega) only[k2,k3,zu1,zv1,go_sem])|with_reducible apply aiA|exact clz|fail
 have hd0:d= []:=by
  cases d with
  |nil=>rfl
  |cons o r=>
   exfalso
   have:=g4
   unfold KD at this;split at this
   ·cases this
   ·have h0:=jS.1 this 0 (by simp);have h1:=(UO h0).2.2.2.2.1;have h2:kF x [] ((o::r).getD 0 default)= -1:=rfl;omega
 subst hd0;have zi: ∀g l,valL g .len [qv l]= .int .i64 l.length:=λ_ _=>rfl
 have zj: ∀g l,okL g .len [qv l]=True:=λ_ _=>eqt trivial
 have ePL:(plG x [] [] ([]:List Dc).length).length=0:=rfl;refine qz (qzU (j:=h.length+2) (-1) (List.drop 1 (zk [.int .i64 0] 1)) ?j1) (by exact flk) ?_
 case j1=>simp only[go_sem]
 simp (disch:=omega) only[zi,zj,go_sem];refine qn (T:=λ_:Unit=>qO 154 [(1,.el),(3,.int .i64 s),(4,.op h.length 1 0),(13,qv []),(56,.int .i64 0),(57,.int .i64 0)])
  (H:=λ_=>h++ [.mem 1 26 [.str x.sec,strs x.sig,qm x.tok,qu x.col],.emp 1,.emp 2,.emp 0,.emp 0,.emp 0,.emp 0,.emp 0,.emp 0,.emp 0,.emp 0,.emp 0,.emp 0,.emp 0,.emp 0,.emp 0])
  (inv:=λ_=>True) (m:=λ_=>0) () trivial (Wk.temps ?_) ?_
 ·(simp only[go_sem,qf,qc,qa,qe];try exact we)
 rintro⟨⟩-K hK;have q1:((0:Int)<0)=False:=wm;simp (disch:=omega) only[q1,go_sem];refine⟨_,_,Wk.ownNil (j:=h.length+3) (i:=0) (k:=h.length+15) (v:=1) (ty:=45) (cs:= [.nl]) (ve:=0) (sz:=7) ?m1 rfl ?m2,?_⟩
 case m1=>simp only[go_sem]
 case m2=>simp only[go_sem]
 simp (disch:=omega) only[List.set_cons_zero,go_sem];have bne5:(h.length+14 !=h.length+5)=true:=by simp
 have zc: ∀g l,valL g .len [qu l]= .int .i64 l.length:=λ_ _=>rfl
 have zd: ∀g l,okL g .len [qu l]=True:=λ_ _=>eqt trivial
 refine kg ?T ?H ?h1 ?h2
 case h1=>
  simp (disch:=omega) only[zc,zd,go_sem]
  repeat' first|(with_reducible apply aiA)|(refine qz (qBV _ (h.length+14) (by simp only[go_sem])) (by exact flk) ?_;simp (disch:=omega) only[zc,zd,go_sem])
  all_goals first
   |omega
   |rfl
   |exact bne5
 case h2=>
 simp (disch:=omega) only[go_sem];obtain⟨S,hS⟩: ∃S:Nat,s=S:=⟨s.toNat,om⟩
 subst hS;rw[itn]at hN ⊢;have hSl:S<x.sig.length:=by omega
 obtain⟨MC,hMC⟩:=wg ( [AV.int .i64 x.col.length,.int .i64 x.col.length,.nl])
 rw[<-hMC];obtain⟨O5,hO5⟩:=wg (AObj.mem 1 39 (AV.int .i64 x.col.length:: .int .i64 x.col.length:: .nl::List.drop 3 (zk [.int .i64 0,.int .i64 0,.nl] 1)))
 rw[<-hO5];obtain⟨X0,hX0⟩:=wg (AObj.mem 1 26 [.str x.sec,strs x.sig,qm x.tok,qu x.col])
 have lX0: ∀n,lowO n X0:=by
  intro n;rw[hX0];intro c hc;simp at hc;rcases hc with rfl|rfl|rfl|rfl<;>rfl
 refine qn (T:=λi:EsS=>qO 154 [(1,.el),(3,.int .i64 (S:Int)),(4,.op h.length 1 0),(13,qv []),(16,.op (h.length+3) 1 0),(17,.op (h.length+4) 1 0),(18,.int .i64 (nxT x [] i.k:Int)),(78,.osl (h.length+14) 2 3 0 1),(79,.int .i64 1),(80,.int .i64 i.k)])
  (H:=λi=>h++ [.mem 1 26 [.str x.sec,strs x.sig,qm x.tok,qu x.col],.emp 1,.emp 2,.mem 1 45 [.osl (h.length+15) i.vb 7 0 (rwK x [] [] S i.k).length],.mem 1 135 [.fn (.func 69) [] [.op (h.length+3) 1 0]],O5,.emp 0,i.O7,i.O8,i.O9,i.O10,i.O11,i.O12,.emp 0,.mem 2 39 MC,zg i.vb 133 (jD (bsW (rwK x [] [] S i.k)))])
  (inv:=λi=>i.k<=1∧ ∀O∈ [i.O7,i.O8,i.O9,i.O10,i.O11,i.O12],qy [O] 0=true∧ ∀n,lowO n O) (m:=λi=>1-i.k) ⟨0,0,.emp 0,.emp 0,.emp 0,.emp 0,.emp 0,.emp 0⟩ ⟨nzl _,λO hO=>by
   simp at hO;subst hO;exact⟨rfl,λ_=>trivial⟩⟩ (Wk.temps ?_) ?_
 ·(simp only[go_sem,qf,qc,qa,qe];try (repeat' first|(with_reducible apply aiA)|(apply qg;omega)|(apply qd;rfl)|exact qi))
  done
 rintro⟨k,vb,O7,O8,O9,O10,O11,O12⟩ ⟨i1,i2⟩ K hK;simp only at i1 i2 hK;obtain⟨s7,l7⟩:=i2 O7 (by simp);obtain⟨s8,l8⟩:=i2 O8 (by simp);obtain⟨s9,l9⟩:=i2 O9 (by simp);obtain⟨s10,l10⟩:=i2 O10 (by simp);obtain⟨s11,l11⟩:=i2 O11 (by simp);obtain⟨s12,l12⟩:=i2 O12 (by simp);have s7': ∀m,qy (O7::m) 0=true:=λ_=>s7
 have s8': ∀m,qy (O8::m) 0=true:=λ_=>s8
 by_cases hk:k<=0
 case neg=>
  have q1:((k:Int)<(1:Int))=False:=wm;have eR:rwK x [] [] S k=rwA x [] [] S:=by unfold rwK;rw[lnl,ine hk]
  rw[eR]
  by_cases g5:1024<(rwA x [] [] S).length
  ·have q5:((1024:Int)<(rwA x [] [] S).length)=True:=wl;simp only[ipo g5];simp (disch:=omega) only[q1,q5,go_sem]
   repeat' first|(apply qb;exact rvk;simp only[go_sem])|with_reducible apply aiA|exact clz|fail
   exact VLe.tup ⟨qP,qi,trivial⟩
  ·have q5:((1024:Int)<(rwA x [] [] S).length)=False:=wm;simp only[ine g5];simp (disch:=omega) only[q1,q5,go_sem]
   repeat' first|(apply qb;exact rvk;simp only[go_sem])|with_reducible apply aiA|exact clz|fail
   exact VLe.tup ⟨qdM (qaf _).symm,qi,trivial⟩
 have q1:((k:Int)<(1:Int))=True:=wl;have q2:(0<=(k:Int))=True:=wl;have hk0:k=0:=by omega
 have hMl:MC.length=3:=by rw[hMC];rfl
 have q3:(k*3+3<=MC.length)=True:=wl;have eR:rwK x [] [] S k=rwL x [] [] S k:=by unfold rwK;rw[lnl,ipo hk]
 have eN:nxT x [] k=ku [] k:=by unfold nxT;rw[lnl,ipo hk]
 rw[eR,eN];obtain⟨f,hf⟩:=wg x.col.length
 obtain⟨t',ht'⟩:=wg x.col.length
 obtain⟨RV,hRV⟩:=wg AV.nl
 have eM:List.take 3 (List.drop (k*3) MC)= [.int .i64 (f:Int),.int .i64 (t':Int),RV]:=by rw[hk0,hMC,hf,ht',hRV];rfl
 have a5:ku [] k<=f:=by rw[hk0];exact nzl _
 have a6:f<=x.col.length:=by omega
 have lRV: ∀n,qT n RV=true:=λn=>by rw[hRV];rfl
 have c3:=λh=>qAd x (ku [] k) f S h
 have hit:=itS x S (ku [] k) f hz ho hSl a6 a5;have hpF:=UM ho hSl (f:=ku [] k) (d:=f-ku [] k) om;obtain⟨ps,hps⟩:=wg (spk x S (ku [] k) (f-ku [] k))
 have hxl:(spX x S (ku [] k) (f-ku [] k))=ps.map λp=> [.agg (pcC p)]:=by unfold spX;rw[hps]
 rw[hxl]at hit;rw[<-hps]at hpF;unfold coC at c3 hit;simp (disch:=omega) only[q1,q2,q3,eM,s7',s8',go_sem]
 repeat' first|(refine cA (c3 _) flk ?_;simp (disch:=omega) only[go_sem])|with_reducible apply aiA|exact clz|fail
 obtain⟨L0,hL0⟩:=wg (rwL x [] [] S k)
 have hLF: ∀r∈L0,PcF r.p:=by rw[hL0];exact qfA ho hus hSl (λi hi=>absurd hi (by simp)) hk
 have hLn:(L0++rwM ps (-1) (-1)).length<=1000000000:=by
  refine Nat.le_trans ?_ hN;rw[hL0,hps,hf,hk0];exact nlr _
 rw[<-hL0];obtain⟨P7,hP7⟩:=wg (AObj.mem (qo (some O7)+1) 3 [.int .i64 (k:Int)])
 obtain⟨P8,hP8⟩:=wg (AObj.mem (qo (some O8)+1) 39 [.int .i64 (f:Int),.int .i64 (t':Int),RV])
 have hP7l:qy [P7] 0=true∧ ∀n,lowO n P7:=by
  rw[hP7];refine⟨rfl,λn c hc=> ?_⟩;rw[List.mem_singleton]at hc;subst hc;rfl
 have hP8l:qy [P8] 0=true∧ ∀n,lowO n P8:=by
  rw[hP8];refine⟨rfl,λn c hc=> ?_⟩;simp only[List.mem_cons,List.not_mem_nil,or_false]at hc;rcases hc with rfl|rfl|rfl
  ·rfl
  ·rfl
  ·exact lRV n
 have cP7: ∀m,cellsOf (P7::m) 0 (qo (some O7)+1)=some [.int .i64 (k:Int)]:=λm=>by rw[hP7];simp only[go_sem]
 rw[<-hP7,<-hP8];have lP: ∀L:List Rw,∀v n,lowO n (zg v 133 (jD (bsW L))):=λL v n=>jy (qb0 _ n)
 have hLow: ∀(L M:List Rw) (v w:Nat) O A,(∀n,lowO n A)->LowI (h++ [.mem 1 26 [.str x.sec,strs x.sig,qm x.tok,qu x.col],.emp 1,.emp 2,.mem 1 45 [.osl (h.length+15) w 7 0 M.length],.mem 1 135 [.fn (.func 69) [] [.op (h.length+3) 1 0]],O5,.emp 0,P7,P8,O,O10,O11,O12,.emp 0,.mem 2 39 MC,zg w 133 (jD (bsW M))])
   (h++ [.mem 1 26 [.str x.sec,strs x.sig,qm x.tok,qu x.col],.emp 1,.emp 2,.mem 1 45 [.osl (h.length+15) v 7 0 L.length],.mem 1 135 [.fn (.func 69) [] [.op (h.length+3) 1 0]],O5,.emp 0,P7,P8,A,O10,O11,O12,.emp 0,.mem 2 39 MC,zg v 133 (jD (bsW L))]):=λL M v w O A lA=>by
  refine⟨by simp,λo ho=> ?_⟩;rcases List.mem_append.1 ho with h1|h1
  ·exact .inl (List.mem_append_left _ h1)
  ·simp only[List.mem_cons,List.not_mem_nil,or_false]at h1;rcases h1 with rfl|rfl|rfl|rfl|rfl|rfl|rfl|rfl|rfl|rfl|rfl|rfl|rfl|rfl|rfl|rfl
   ·left;simp
   ·left;simp
   ·left;simp
   ·right;refine⟨λc hc=> ?_,λc hc=> ?_⟩<;>
    ·rw[List.mem_singleton]at hc;subst hc;simp[qT]
     try omega
   ·left;simp
   ·left;simp
   ·left;simp
   ·left;simp
   ·left;simp
   ·right;exact⟨lA _,lA _⟩
   ·left;simp
   ·left;simp
   ·left;simp
   ·left;simp
   ·left;simp
   ·right;exact⟨lP _ _ _,lP _ _ _⟩
 refine zE hit (λa ha=> ?_)
  (S:=λi hh=> ∃A,qy [A] 0=true∧(∀n,lowO n A)∧hh=h++ [.mem 1 26 [.str x.sec,strs x.sig,qm x.tok,qu x.col],.emp 1,.emp 2,.mem 1 45 [.osl (h.length+15) (vb+i) 7 0 (L0++rwM (ps.take i) (-1) (-1)).length],.mem 1 135 [.fn (.func 69) [] [.op (h.length+3) 1 0]],O5,.emp 0,P7,P8,A,O10,O11,O12,.emp 0,.mem 2 39 MC,zg (vb+i) 133 (jD (bsW (L0++rwM (ps.take i) (-1) (-1))))]) (E:=λ_ _=>False) ?_ ?_ ?_ ?_ ?_ ?_ ?_
 ·obtain⟨c,_,rfl⟩:=List.mem_map.1 ha;rfl
 ·rintro i hh ⟨A,_,lA,rfl⟩;exact hLow _ _ _ _ _ _ lA
 ·intro s hh hf;exact hf.elim
 ·exact⟨O9,s9,l9,by simp[rwM]⟩
 ·simp[qT,qT.lowVs]
  repeat' apply aiA
  all_goals first|rfl|omega|exact lRV _
 ·rintro i hh tl LI TS hi ⟨A,sA,lA,rfl⟩ hlen K1 K2 hK1 hN1 hR1 hX1;have hi':i<ps.length:=by rw[List.length_map]at hi;exact hi
  rw[List.getElem_map];have sA': ∀m,qy (A::m) 0=true:=λ_=>sA
  have hS:L0++rwM (ps.take (i+1)) (-1) (-1)=(L0++rwM (ps.take i) (-1) (-1))++ [⟨ps.getD i default,-1,-1⟩]:=by
   unfold rwM;rw[List.take_add_one,zz hi',List.map_append,gdqA,zz hi',List.append_assoc];rfl
  have eG:ps[i]=ps.getD i default:=by rw[gdqA,zz hi'];rfl
  rw[eG];have hpm:ps.getD i default∈ps:=jf hi';obtain⟨p,hp'⟩:=wg (ps.getD i default)
  rw[<-hp']at hS hpm ⊢;obtain⟨M,hM⟩:=wg (L0++rwM (ps.take i) (-1) (-1))
  have hMF: ∀r∈M,PcF r.p:=λr hr=>by
   rw[hM]at hr;rcases List.mem_append.1 hr with hr|hr
   ·exact hLF r hr
   ·exact hpF _ (List.mem_of_mem_take (kZ.1 hr).1)
  have hMn:M.length<=1000000000:=by
   rw[hM,lap,jM,List.length_take];rw[lap,jM]at hLn;omega
  rw[<-hM]at hS ⊢;simp only[kK,List.append_assoc,lca,lna];simp (disch:=omega) only[sA',pcC,tkC,go_sem];refine hK1 _ _ (h++ [.mem 1 26 [.str x.sec,strs x.sig,qm x.tok,qu x.col],.emp 1,.emp 2,.mem 1 45 [.osl (h.length+15) (vb+i) 7 0 M.length],.mem 1 135 [.fn (.func 69) [] [.op (h.length+3) 1 0]],O5,.emp 0,P7,P8,(.mem (qo (some A)+1) 131 (pcC p)),O10,O11,O12,.emp 0,.mem 2 39 MC,zg (vb+i) 133 (jD (bsW M))]) ?_ ?_ ?_
  ·simp[pcC,tkC]
  ·simp
  ·simp only[List.append_assoc,lca,lna];simp (disch:=omega) only[pcC,tkC,go_sem]
   repeat' first|with_reducible apply aiA|exact clz|fail
   refine ky (qvp (a:=h.length+3) (b:=h.length+15) (c:=h.length) (va:=1) (vb:=vb+i) (Z:= .mem 1 26 [.str x.sec,strs x.sig,qm x.tok,qu x.col]) ⟨by simp,by simp,by simp,om,om,om⟩ M p (-1) (-1) (by simp only[go_sem]) (by simp only[go_sem]) (by simp only[go_sem]) (by rw[<-hX0];exact lX0) (hpF p hpm) hMn hMF) ?_;simp (disch:=omega) only[go_sem];refine hN1 _ _ (h++ [.mem 1 26 [.str x.sec,strs x.sig,qm x.tok,qu x.col],.emp 1,.emp 2,.mem 1 45 [.osl (h.length+15) (vb+(i+1)) 7 0 (M++ [(⟨p,-1,-1⟩:Rw)]).length],.mem 1 135 [.fn (.func 69) [] [.op (h.length+3) 1 0]],O5,.emp 0,P7,P8,(.mem (qo (some A)+1) 131 (pcC p)),O10,O11,O12,.emp 0,.mem 2 39 MC,zg (vb+(i+1)) 133 (jD (bsW (M++ [(⟨p,-1,-1⟩:Rw)])))]) ?_ ?_ ⟨_,rfl,?_,by rw[hS]⟩
   ·simp[pcC,tkC,Nat.add_assoc]
   ·simp
   ·intro n c hc;simp[pcC,tkC]at hc;rcases hc with rfl|rfl|rfl|rfl|rfl|rfl|rfl<;>rfl
 ·rintro hh ⟨A,sA,lA,rfl⟩;rw[List.length_map,List.take_length];obtain⟨L1,hL1⟩:=wg (L0++rwM ps (-1) (-1))
  rw[<-hL1]
  by_cases hkl:k<0
  case neg=>
   have hke:k=0:=by omega
   obtain⟨b1,b2⟩:f=x.col.length∧t'=x.col.length:=⟨hf,ht'⟩
   have q4:((k:Int)=0)=True:=wl;rw[hP7,hP8];simp (disch:=omega) only[q4,go_sem]
   repeat' first|with_reducible apply aiA|exact clz|fail
   rw[<-hP7,<-hP8];have e1:rwK x [] [] S (k+1)=L1:=by
    unfold rwK;rw[ine (by simp),hL1,hL0,hps,b1,hke];rfl
   have e2:nxT x [] (k+1)=t':=by unfold nxT;rw[ine (by simp),b2]
   refine hK _ _ ⟨k+1,vb+ps.length,P7,P8,A,O10,O11,O12⟩ ⟨by simp only;omega,λO hO=> ?_⟩ (by simp only;omega) ?_
   ·simp only[List.mem_cons,List.not_mem_nil,or_false]at hO;rcases hO with rfl|rfl|rfl|rfl|rfl|rfl
    ·exact hP7l
    ·exact hP8l
    ·exact⟨sA,lA⟩
    ·exact⟨s10,l10⟩
    ·exact⟨s11,l11⟩
    ·exact⟨s12,l12⟩
   ·simp only[e1,e2];refine Wk.temps ?_
    (simp only[go_sem,qf,qc,qa,qe];try exact we)
  exact absurd hkl (nnz k)
 ·intro e hh hf;exact hf.elim
theorem qB8(x:Co)(l:List Un)(d:List Dc)(s:Int)(h:wh)(hz:qad x)(hu:qbK l)(hp:kt SG h)(hg:zT h frmN frmC)(hd:d.length<=1000000)(ht: ∀o∈d,o.txt.length<=1000)(hN0:vaE x l=0->(rwA x l d s.toNat).length<=1000000000):
  ACalls Tryz.prog 17 [.agg (coC x),ze l,kq d,.int .i64 s] h (.tup [kn (esR x l d s),.int .i64 (esE x l d s)]) h:=by
 cases l with
 |nil=>exact ACalls.sl0 (pre:= [.agg (coC x)]) (post:= [kq d,.int .i64 s]) (qB9 x d s h hz hp hg hd ht hN0) (qCa x d s h hz hp hg hd ht hN0)
 |cons u r=>exact qEB x (u::r) d s h hz hu hp hg (List.cons_ne_nil _ _) hd ht hN0
end RC
end
section
open Go Go.Proofs AF
def qft:List Nat:= []
def qvU:C:=
 (vU [⟨some 2,none,.alloc 0 119 [.str [],.str [],.str [],i6 0,i6 0,.str []],[]⟩] (vX [MV 3 0,MV 4 0,⟨some 5,none,.build [.str [],.str [],.str [],i6 0,i6 0,.str []]
 [(0,1),(1,1)],[.t 3,.t 4]⟩,ST 6 2 5]))
theorem qxH:qI Tryz.prog 159 6 1 [RV.cell 2 (some 6)] qvU:=fi Tryz.f159 [2] qft []
def qDL:C:=
 (vU [⟨some 0,none,.alloc 0 26 [.str [],.nl,.nl,.nl],[]⟩] (vX [⟨some 1,none,.bslc 1 1 2 9 [.str []] [(0,1),(1,1)],[.c (.str [65]),.c (.str [66])]⟩,ON 2 (.call 159 true) [.c (.str
 [100,101,117,115])],ON 3 (.call 159 true) [.c (.str [101,115,116])],ON 4 (.call 159 true) [.c (.str [98,111,110,117,115])],⟨some 5,none,.bslc 2 6 3 119 [.str [],.str [],.str
 [],i6 0,i6 0,.str []] [(0,6),(6,6),(12,6)],[.t 2,.t 3,.t 4]⟩,ON 6 (.call 159 true) [.c (.str [100,101,117,115])],ON 7 (.call 159 true) [.c (.str [98,111,110,117,115])],⟨some
 8,none,.bslc 3 6 2 119 [.str [],.str [],.str [],i6 0,i6 0,.str []] [(0,6),(6,6)],[.t 6,.t 7]⟩,⟨some 9,none,.bslc 4 1 2 115 [.nl] [(0,1),(1,1)],[.t 5,.t 8]⟩,⟨some 10,none,.bslc
 5 1 2 3 [i6 0] [(0,1),(1,1)],[.c (i6 0),.c (i6 0)]⟩,⟨some 11,none,.bslc 6 1 2 3 [i6 0] [(0,1),(1,1)],[.c (i6 1),.c (i6 (-1))]⟩,⟨some 12,none,.bslc 7 1 2 3 [i6 0]
 [(0,1),(1,1)],[.c (i6 2),.c (i6 1)]⟩,⟨some 13,none,.bslc 8 1 3 51 [.nl] [(0,1),(1,1),(2,1)],[.t 10,.t 11,.t 12]⟩,⟨some 14,none,.build [.str [],.nl,.nl,.nl]
 [(0,1),(1,1),(2,1),(3,1)],[.c (.str [97]),.t 1,.t 9,.t 13]⟩,ST 4 0 14]))
theorem qCt:qI Tryz.prog 83 15 9 [RV.cell 0 (some 4)] qDL:=fi Tryz.f83 [0,1,5,8,9,10,11,12,13] qft []
def qwh:C:=
 (vU [O1 1 (.box 0 59) 0,MC 2 (.bool false)] (vX [vN 3 0 1,O1 4 (.load (some 4)) 3,O1 5 (.call 9 true) 4,MV 6 5,v7 7 6 4 1,v8 8 6 7,vQ 9 6 (.call 82 true) 8,PT 10 6 9,MV 11 10,v7
 12 11 5 1,v8 13 11 12,vQ 14 11 (.call 31 true) 13,PT 15 11 14,MV 2 15]))
theorem qoJ:qI Tryz.prog 24 16 1 [RV.tmp 2] qwh:=fi Tryz.f24 [1] qft []
end
section
open Go Go.Proofs AF
def qtr:List Nat:= [17]
def qDy:C:=
 (vU [MC 0 (.bool false)] (vU [ON 10 (.call 83 true) [],O1 11 (.call 12 true) 10,MV 9 11,O1 12 (.ext 0) 9,O1 13 (.ext 1) 9,MV 1 12,MV 2 13] (vU [ON 15 (.call 83 true) [],MV 16
 1,ON 17 (.call 17 false) [.t 15,.t 16,.c .nl,.c (i6 0)],MV 14 17,O1 18 (.ext 0) 14,O1 19 (.ext 1) 14,MV 3 18,MV 4 19] (vU [ON 21 (.call 83 true) [],MV 22 1,⟨some 23,none,.build
 [i6 0,.str [],i6 0,.str []] [(0,1),(1,1),(2,1)],[.c (i6 3),.c (.str [65]),.c (i6 1)]⟩,⟨some 24,none,.bslc 0 4 1 65 [i6 0,.str [],i6 0,.str []] [(0,4)],[.t 23]⟩,ON 25 (.call 17
 false) [.t 21,.t 22,.t 24,.c (i6 0)],MV 20 25,O1 26 (.ext 0) 20,O1 27 (.ext 1) 20,MV 5 26,MV 6 27] (vU [ON 29 (.call 83 true) [],MV 30 1,⟨some 31,none,.build [i6 0,.str [],i6
 0,.str []] [(0,1),(1,1),(2,1),(3,1)],[.c (i6 2),.c (.str [65]),.c (i6 1),.c (.str [118,101,114,101,44,32,101,116])]⟩,⟨some 32,none,.bslc 1 4 1 65 [i6 0,.str [],i6 0,.str []]
 [(0,4)],[.t 31]⟩,ON 33 (.call 17 false) [.t 29,.t 30,.t 32,.c (i6 0)],MV 28 33,O1 34 (.ext 0) 28,O1 35 (.ext 1) 28,MV 7 34,MV 8 35] ((vU [MV 36 2,MV 37 4,MV 38 6,MV 39 8,ON 40
 (.mm true) [.t 36,.t 37,.t 38,.t 39],vP 41 .neq 40 0,MV 42 41,vS 43 42 7,vQ 44 42 .len 43,vT 45 42 (.bin .neq) 44 (i6 5),PT 46 42 45] (vV 46 (vX [MC 0 (.bool false)]))).seq (vX
 [MV 47 3,O1 48 (.call 19 true) 47,⟨some 49,none,.bslc 2 1 3 9 [.str []] [(0,1),(1,1),(2,1)],[.c (.str [100,101,117,115]),.c (.str [101,115,116]),.c (.str
 [98,111,110,117,115])]⟩,O2 50 (.call 18 true) 48 49,MV 51 50,MG 52 51 true 5,P1 53 51 true (.call 19 true) 52,⟨some 54,some (51,true),.bslc 3 1 2 9 [.str []] [(0,1),(1,1)],[.c
 (.str [100,101,117,115]),.c (.str [98,111,110,117,115])]⟩,P2 55 51 true (.call 18 true) 53 54,PF 56 51 55,MV 57 56,MG 58 57 true 7,P1 59 57 true (.call 19 true) 58,⟨some
 60,some (57,true),.bslc 4 1 5 9 [.str []] [(0,1),(1,1),(2,1),(3,1),(4,1)],[.c (.str [100,101,117,115]),.c (.str [118,101,114,101]),.c (.str [44]),.c (.str [101,116]),.c (.str
 [98,111,110,117,115])]⟩,P2 61 57 true (.call 18 true) 59 60,PF 62 57 61,MV 63 62,MG 64 63 true 7,PC 65 63 true (.idxA 7) 64 (i6 2),P1 66 63 true (.fldA 4) 65,P1 67 63 true
 (.load none) 66,PF 68 63 67,MV 69 68,MG 70 69 true 7,PC 71 69 true (.idxA 7) 70 (i6 3),P1 72 69 true (.fldA 4) 71,P1 73 69 true (.load none) 72,P1 74 69 true (.un UnOp.not)
 73,PF 75 69 74,MV 0 75])))))))
theorem qCf:qI Tryz.prog 25 76 5 [RV.tmp 0] qDy:=fi Tryz.f25 [24,32,49,54,60] qtr []
end
section
open Go Go.Proofs AF HY LN
namespace RC
theorem qEL(a:Cq)(h:wh)(hb:CqB a):ACalls Tryz.prog 24 [.agg (cqC a)] h (.bool (qy0 a)) h:=by
 have c1:=λh=>qEH a.x h hb.x
 have c2:=λh=>qEI a.l h hb.l
 have c3:=λh=>qy5 a.d h hb.d
 unfold qy0;cases e1:qti a.x with
 |true=>
  rw[e1]at c1;unfold coC at c1;refine acO qoJ ?_;simp (disch:=omega) only[qwh,cqC,go_sem]
  repeat' first|(refine qj ( .bool false) ?_;simp (disch:=omega) only[go_sem])|(refine cA (c1 _) flk ?_;simp (disch:=omega) only[go_sem])|exact wa|fail
 |false=>
  rw[e1]at c1;unfold coC at c1;cases e2:qtj a.l with
  |true=>
   rw[e2]at c2;refine acO qoJ ?_;simp (disch:=omega) only[qwh,cqC,go_sem]
   repeat' first|(refine qj ( .bool false) ?_;simp (disch:=omega) only[go_sem])|((first|refine cA (c1 _) ?_ ?_|refine cG (λe=>c2 _) ?_ ?_);exact flk;simp (disch:=omega) only[go_sem])|exact wa|fail
  |false=>
   rw[e2]at c2;cases e3:qoV a.d with
   |true=>
    rw[e3]at c3;refine acO qoJ ?_;simp (disch:=omega) only[qwh,cqC,go_sem]
    repeat' first|((first|refine cA (c1 _) ?_ ?_|refine cG (λe=>c2 _) ?_ ?_|refine cG (λe=>c3 _) ?_ ?_);exact flk;simp (disch:=omega) only[go_sem])|exact wa|fail
   |false=>
    rw[e3]at c3;refine acO qoJ ?_;simp (disch:=omega) only[qwh,cqC,go_sem]
    repeat' first|((first|refine cA (c1 _) ?_ ?_|refine cG (λe=>c2 _) ?_ ?_|refine cG (λe=>c3 _) ?_ ?_);exact flk;simp (disch:=omega) only[go_sem])|exact wa|fail
theorem qC5(s:Str)(h:wh):ACalls Tryz.prog 159 [.str s] h (.agg (tkC (tkS s))) h:=by
 unfold tkS tkC;refine acO qxH ?_;simp (disch:=omega) only[qvU,go_sem]
 repeat' first|exact wa|fail
theorem qC2(h:wh):ACalls Tryz.prog 83 [] h (.agg (coC xCo)) h:=by
 have c1:=λs h=>qC5 s h
 unfold tkC tkS at c1;refine acO qCt ?_;simp (disch:=omega) only[qDL,go_sem]
 repeat' first|((first|refine cA (c1 qbG _) ?_ ?_|refine cA (c1 qvj _) ?_ ?_|refine cA (c1 CS _) ?_ ?_);exact flk;simp (disch:=omega) only[go_sem])|(apply qb;exact rvk;simp only[go_sem])
 refine VLe.agg ⟨qi,vl2 ⟨ie rfl,trivial⟩ ⟨ie rfl,trivial⟩,vl2 ⟨?a1,trivial⟩ ⟨?a2,trivial⟩,vl3 ⟨?a3,trivial⟩ ⟨?a4,trivial⟩ ⟨?a5,trivial⟩,trivial⟩
 case a1=>simp only[go_sem];exact il3 rfl rfl rfl
 case a2=>simp only[go_sem];exact il2 rfl rfl
 case a3=>simp only[go_sem];exact il2 rfl rfl
 case a4=>simp only[go_sem];exact il2 rfl rfl
 case a5=>simp only[go_sem];exact il2 rfl rfl
def que:Str:= [118,101,114,101]
def qD1:Dc:=⟨3,[65],1,[]⟩
def qD2:Dc:=⟨2,[65],1,[118,101,114,101,44,32,101,116]⟩
def qA:List Wd:= [⟨qbG,0,-1,-1,false,false,[]⟩,⟨qvj,1,0,-1,false,false,[]⟩,⟨CS,2,-1,-1,false,false,[]⟩]
def qB:List Wd:= [⟨qbG,0,-1,-1,false,false,[]⟩,⟨CS,2,-1,-1,false,false,[]⟩]
def qC:List Wd:= [⟨qbG,0,-1,-1,false,false,[]⟩,⟨que,1,0,0,false,false,[]⟩,⟨[44],1,0,0,true,false,[]⟩,⟨[101,116],1,0,0,false,false,[]⟩,⟨CS,2,-1,-1,false,false,[]⟩]
theorem q_u:utR xCo=xUn∧utE xCo=0:=by decide+kernel
theorem q_a:esE xCo xUn [] 0=0∧esR xCo xUn [] 0=qA:=by decide+kernel
theorem q_b:esE xCo xUn [qD1] 0=0∧esR xCo xUn [qD1] 0=qB:=by decide+kernel
theorem q_c:esE xCo xUn [qD2] 0=0∧esR xCo xUn [qD2] 0=qC:=by decide+kernel
theorem qBu(h:wh)(hp:kt SG h)(hg:zT h frmN frmC):ACalls Tryz.prog 25 [] h (.bool true) h:=by
 have c1:=λh=>qC2 h
 have zs:qad xCo:=(qrs (by decide+kernel)).1;have zu:qbK xUn:=(qrt (by decide+kernel)).1;have c2:=λl'=>qC9 xCo (h++l') zs (hp.app l')
 rw[q_u.1,q_u.2]at c2;have hb: ∀d:List Dc,(∀o∈d,o.txt.length<=1000)->vaE xCo xUn=0->(rwA xCo xUn d (0:Int).toNat).length<=1000000000:=λd ht g=>qus (by decide) ht g
 have t1: ∀o∈ [qD1],o.txt.length<=1000:=by decide
 have t2: ∀o∈ [qD2],o.txt.length<=1000:=by decide
 have c3:=λl'=>(qB8 xCo xUn [] 0 (h++l') zs zu (hp.app l') hg.app (by simp) (by simp) (hb [] (by simp))).le (args:= [.agg (coC xCo),ze xUn,.nl,.int .i64 0]) ⟨qi,qi,qP,qi,trivial⟩ (qi)
 have c4:=λl'=>qB8 xCo xUn [qD1] 0 (h++l') zs zu (hp.app l') hg.app (by simp) t1 (hb _ t1)
 have c5:=λl'=>qB8 xCo xUn [qD2] 0 (h++l') zs zu (hp.app l') hg.app (by simp) t2 (hb _ t2)
 rw[q_a.1,q_a.2]at c3;rw[q_b.1,q_b.2]at c4;rw[q_c.1,q_c.2]at c5;have hc0:([h.length]:List Nat).contains h.length=true:=by simp
 have hc1:([h.length+1]:List Nat).contains (h.length+1)=true:=by simp
 unfold coC at c1 c2 c3;refine acO qCf ?_;simp (disch:=omega) only[qDy,go_sem]
 repeat' first|((first|refine cA (c1 _) ?_ ?_|refine cA (c2 _) ?_ ?_|refine cA (c3 _) ?_ ?_);exact flk;simp (disch:=omega) only[go_sem])|with_reducible apply aiA|exact clz|fail
 refine qz (r:= .tup [kn qB,.int .i64 0]) (h':=h++ [.emp 2,.emp 0,.emp 0,.emp 0,.emp 0]) (ACalls.frzd [h.length] (by simp only[kM,go_sem]) ?c) (by exact flk) ?_
 case c=>
  simp only[qa5,go_sem];refine ACalls.le (c4 _) ?_ (qi);simp only[go_sem,coC,hc0,if_true];exact⟨qi,qi,VLe.sl_eq rfl (λi hi=>by
   obtain rfl:i=0:=by omega
   rfl),qi,trivial⟩
 simp (disch:=omega) only[go_sem]
 repeat' first|(refine cA (c1 _) flk ?_;simp (disch:=omega) only[go_sem])|with_reducible apply aiA|exact clz|fail
 refine qz (r:= .tup [kn qC,.int .i64 0]) (h':=h++ [.emp 2,.emp 2,.emp 0,.emp 0,.emp 0]) (ACalls.frzd [h.length+1] (by simp only[kM,go_sem]) ?d) (by exact flk) ?_
 case d=>
  simp only[qa5,go_sem];refine ACalls.le (c5 _) ?_ (qi);simp only[go_sem,coC,hc1,if_true];exact⟨qi,qi,VLe.sl_eq rfl (λi hi=>by
   obtain rfl:i=0:=by omega
   rfl),qi,trivial⟩
 have zm:valP (.mm true) [.int .i64 0,.int .i64 0,.int .i64 0,.int .i64 0]= .int .i64 0:=rfl;have zn:okP (.mm true) [.int .i64 0,.int .i64 0,.int .i64 0,.int .i64 0]=True:=eqt (by simp[okP,qcf]);have zA: ∀g,valL g .len [kn qC]= .int .i64 5:=λ_=>rfl
 have zB: ∀g,okL g .len [kn qC]=True:=λ_=>eqt trivial
 have w1:=λh=>qqO qA h (by decide)
 have w2:=λh=>qqO qB h (by decide)
 have w3:=λh=>qqO qC h (by decide)
 have e1:qbY qA= [qbG,qvj,CS]:=rfl;have e2:qbY qB= [qbG,CS]:=rfl;have e3:qbY qC= [qbG,que,[44],[101,116],CS]:=rfl;rw[e1]at w1;rw[e2]at w2;rw[e3]at w3;simp (disch:=omega) only[zm,zn,zA,zB,go_sem]
 repeat' first|(refine cA (w1 _) flk ?_;simp (disch:=omega) only[go_sem])|with_reducible apply aiA|exact clz|fail
 refine cA (qB6 (L:= [qbG,qvj,CS]) ?v1 (by decide)) (by exact flk) ?_
 case v1=>
  simp only[List.map,go_sem];exact⟨qi,VLe.sl_eq rfl (λi hi=>by
   match i,hi with
   |0,_=>rfl
   |1,_=>rfl
   |2,_=>rfl
   |n+3,hi=>exact absurd hi om),trivial⟩
 simp (disch:=omega) only[go_sem]
 repeat' first|(refine cG (λe=>w2 _) flk ?_;simp (disch:=omega) only[go_sem])
 refine cG (λ_=>qB6 (L:= [qbG,CS]) ?v2 (by decide)) (λ_=>by exact flk) ?_
 case v2=>
  simp only[List.map,go_sem];exact⟨qi,VLe.sl_eq rfl (λi hi=>by
   match i,hi with
   |0,_=>rfl
   |1,_=>rfl
   |n+2,hi=>exact absurd hi om),trivial⟩
 simp (disch:=omega) only[go_sem]
 repeat' first|(refine cG (λe=>w3 _) flk ?_;simp (disch:=omega) only[go_sem])
 refine cG (λ_=>qB6 (L:= [qbG,que,[44],[101,116],CS]) ?v3 (by decide)) (λ_=>by exact flk) ?_
 case v3=>
  simp only[List.map,go_sem];exact⟨qi,VLe.sl_eq rfl (λi hi=>by
   match i,hi with
   |0,_=>rfl
   |1,_=>rfl
   |2,_=>rfl
   |3,_=>rfl
   |4,_=>rfl
   |n+5,hi=>exact absurd hi om),trivial⟩
 have zq:kn qC= .sl 5 λi=>wdC (qC.getD i default):=rfl
 have g2:qC.getD 2 default=⟨[44],1,0,0,true,false,[]⟩:=rfl;have g3:qC.getD 3 default=⟨[101,116],1,0,0,false,false,[]⟩:=rfl;simp (disch:=omega) only[zq,wdC,go_sem]
 repeat' first|exact wa|(with_reducible first|intro _|apply aiA)|exact clz|fail
theorem qA7.esE{x:Co}{l:List Un}{d:List Dc}{s:Nat}(h:qA7 x l d s):esE x l d s=0:=by
 have h1:vaE x l=0:=by
  unfold vaE;rw[ine (λhc=>hc h.ca),ine];unfold rgB;rw[h.us,h.cv];simp
 have h2:KD x l d=0:=by
  unfold KD;rw[ine (by have:=h.dl;omega)];exact jS.2 h.pl
 have:=h.sl
 have:=h.ln
 unfold RC.esE;rw[h1,h2,ine (by simp),ine om,ine (by simp),ine (by rw[itn];omega)]
theorem qA7.va{x:Co}{l:List Un}{d:List Dc}{s:Nat}(h:qA7 x l d s):vaE x l=0:=by
 unfold vaE;rw[ine (λhc=>hc h.ca),ine];unfold rgB;rw[h.us,h.cv];simp
end RC
end
section
open Go Go.Proofs AF
end
section
open Go Go.Proofs AF
end
section
open Go Go.Proofs AF HY LN
namespace RC
end RC
end
section
open Go Go.Proofs AF
end
section
open Go Go.Proofs AF HY LN
namespace RC
theorem qEp(c:UInt8)(h:wh):ACalls Tryz.prog 299 [.int .u8 (c.toNat:Int)] h (.bool (bgn c)) h:=by
 have c5:=λh=>qbi c h
 unfold bgn;obtain⟨k,hk⟩:=wg (kind c)
 rw[<-hk]at c5 ⊢
 by_cases g1:k=1
 ·have q1:(k=1)=True:=eqt g1;rw[dqt g1,Bool.true_or];refine acO qkP ?_;simp (disch:=omega) only[qnZ,go_sem]
  repeat' first|(refine cA (c5 _) flk ?_;simp (disch:=omega) only[q1,go_sem])|exact wc|fail
 have q1:(k=1)=False:=eqf g1;rw[dqf g1,Bool.false_or]
 by_cases g3:k=3
 ·have q3:(k=3)=True:=eqt g3;rw[dqt g3];refine acO qkP ?_;simp (disch:=omega) only[qnZ,go_sem]
  repeat' first|(refine cA (c5 _) flk ?_;simp (disch:=omega) only[q1,q3,go_sem])|exact wc|fail
 have q3:(k=3)=False:=eqf g3;rw[dqf g3];refine acO qkP ?_;simp (disch:=omega) only[qnZ,go_sem]
 repeat' first|(refine cA (c5 _) flk ?_;simp (disch:=omega) only[q1,q3,go_sem])|exact wc|fail
theorem qFH(b:List Tk)(h:wh)(hn:b.length<=1000000):ACalls Tryz.prog 241 [zJ b] h (strs (qdb b)) h:=by
 have z1: ∀g,valL g .len [zJ b]= .int .i64 b.length:=λ_=>rfl
 have z2: ∀g,okL g .len [zJ b]=True:=λ_=>eqt trivial
 have z0:zJ b= .sl b.length λi=>tkC (b.getD i default):=rfl
 refine acO qx5 ?_;simp (disch:=omega) only[qwg,go_sem];refine qn (T:=λs:Nat×Nat×AObj=>qO 20 [(0,zJ b),(3,.osl (h.length+1) s.2.1 1 0 s.1),(4,.int .i64 s.1)])
  (H:=λs=>h++ [.emp 1,zg s.2.1 9 (jl (qdb (b.take s.1))),s.2.2,.emp 0])
  (inv:=λs=>s.1<=b.length∧qy [s.2.2] 0=true) (m:=λs=>b.length-s.1) (0,1,.emp 0) ⟨nzl _,rfl⟩ (Wk.temps ?_) ?_
 ·(simp only[go_sem,qf,qc,qa,qe];try exact we)
 rintro⟨i,v,O2⟩ ⟨i1,i3⟩ K hK;simp only at i1 i3 hK;have i3': ∀m,qy (O2::m) 0=true:=λ_=>i3
 have eL:(qdb (b.take i)).length=i:=by unfold qdb;rw[List.length_map,List.length_take];omega
 by_cases hi:i<b.length
 ·have k1:((i:Int)<b.length)=True:=wl;have k2:(0<=(i:Int))=True:=wl;have hS:qdb (b.take (i+1))=qdb (b.take i)++ [(b.getD i default).text]:=by
   unfold qdb;rw[List.take_add_one,zz hi,gdqA,zz hi,List.map_append];rfl
  obtain⟨L,hL⟩:=wg (qdb (b.take i))
  rw[<-hL]at hS eL ⊢;obtain⟨w,hw⟩:=wg (b.getD i default)
  have ew:=hw.symm;rw[ew]at hS;have eC:=jh L;have eTk:List.take i (jl L)=jl L:=ltl om;simp (disch:=omega) only[z0,tkC,k1,k2,ew,i3',eC,eL,eTk,Nat.mul_one,go_sem]
  repeat' first|with_reducible apply aiA|exact clz|fail
  have eA:jl L++ [AV.str w.text]=jl (L++ [w.text]):=by simp[jl]
  have eD:(AV.str w.text::List.drop 1 (zk [AV.str []] 1))= [AV.str w.text]:=rfl;rw[eA,eD];refine hK _ _ (i+1,v+1,.mem (qo (some O2)+1) 9 [.str w.text]) ⟨hi,rfl⟩ (by simp only;omega) ?_;simp only[hS];refine Wk.temps ?_
  (simp only[z0,tkC,go_sem,qf,qc,qa,qe];try exact we)
 have k1:((i:Int)<b.length)=False:=wm;obtain rfl:i=b.length:=by omega
 rw[List.take_length]at eL ⊢;simp (disch:=omega) only[k1,z1,z2,go_sem]
 repeat' first|(apply qb;exact rvk;simp only[go_sem])
 exact qaL (λ_=>rfl) eL.symm
def qBj(b:List Tk):Int:=if 1024<b.length then 4 else if qgE b=true then 4 else 0
theorem qEZ(b:List Tk)(h:wh)(hn:b.length<=1000000):ACalls Tryz.prog 236 [zJ b] h (.int .i64 (qBj b)) h:=by
 have z1: ∀g,valL g .len [zJ b]= .int .i64 b.length:=λ_=>rfl
 have z2: ∀g,okL g .len [zJ b]=True:=λ_=>eqt trivial
 have z0:zJ b= .sl b.length λi=>tkC (b.getD i default):=rfl
 unfold qBj
 by_cases g:1024<b.length
 ·have k1:((1024:Int)<b.length)=True:=wl;rw[ipo g];refine acO qrg ?_;simp (disch:=omega) only[qsh,z1,z2,k1,go_sem]
  repeat' first|exact wc|fail
 have k1:((1024:Int)<b.length)=False:=wm;rw[ine g];refine acO qrg ?_;simp (disch:=omega) only[qsh,z1,z2,k1,go_sem];refine qn (T:=λi:Nat=>qO 20 [(0,zJ b),(3,.int .i64 (i:Int))]) (H:=λ_=>h)
  (inv:=λi=>i<=b.length∧ ∀j,j<i->decide (64<(b.getD j default).text.length)=false) (m:=λi=>b.length-i) 0 ⟨nzl _,λj hj=>absurd hj (nnz j)⟩ (Wk.temps ?_) ?_
 ·(simp only[go_sem,qf,qc,qa,qe];try exact we)
 rintro i ⟨i1,i2⟩ K hK
 by_cases hi:i<b.length
 ·have m1:((i:Int)<b.length)=True:=wl;have m2:(0<=(i:Int))=True:=wl;obtain⟨w,hw⟩:=wg (b.getD i default)
  have ew:=hw.symm
  by_cases e:64<w.text.length
  ·have q1:((64:Int)<w.text.length)=True:=wl;have hl:qgE b=true:=by
    unfold qgE;exact qK.2 ⟨i,hi,by rw[ew];exact dqt e⟩
   rw[ipo hl];simp (disch:=omega) only[z0,tkC,m1,m2,ew,q1,go_sem]
   repeat' first|exact wc|fail
  ·have q1:((64:Int)<w.text.length)=False:=wm;simp (disch:=omega) only[z0,tkC,m1,m2,ew,q1,go_sem];refine hK _ _ (i+1) ⟨hi,λj hj=> ?_⟩ om (Wk.temps ?_)
   ·by_cases e2:j=i
    ·subst e2;rw[ew];exact dqf e
    ·exact i2 j om
   ·(simp only[z0,tkC,go_sem,qf,qc,qa,qe];try exact we)
 have m1:((i:Int)<b.length)=False:=wm;have hl:qgE b=false:=by
  unfold qgE;exact qq.2 λj hj=>i2 j om
 rw[hl,ine (by simp)];simp (disch:=omega) only[m1,z1,z2,go_sem]
 repeat' first|exact wc|fail
def sgC(c:UInt8):wj:= [.int .u8 (c.toNat:Int),.int .i64 0,.bool false,.bool false,.str [],.str [],.int .i64 0]
def qfJ(s:Str):AV:= .sl s.length λi=>sgC (s.getD i 0)
def qcs(s:Str):wj:=s.flatMap sgC
theorem qgW(L:Str):(qcs L).length=L.length*7:=by
 unfold qcs
 induction L with
 |nil=>rfl
 |cons a L ih=>rw[List.flatMap_cons,lap,ih,lco,show (sgC a).length=7 from rfl];omega
theorem qp4(A B:Str):qcs (A++B)=qcs A++qcs B:=by simp[qcs]
theorem qp6(a:UInt8):qcs [a]=sgC a:=by simp[qcs]
theorem qmj(L:Str): ∀i,(qcs L).drop (i*7)=qcs (L.drop i):=by
 induction L with
 |nil=>intro i;simp[qcs]
 |cons a L ih=>
  intro i;cases i with
  |zero=>simp
  |succ i=>
   rw[show qcs (a::L)=sgC a++qcs L from rfl,show (a::L).drop (i+1)=L.drop i from rfl,<-ih i];rw[show (i+1)*7=(sgC a).length+i*7 by rw[show (sgC a).length=7 from rfl];omega,List.drop_append,List.drop_eq_nil_of_le om,lna,Nat.add_sub_cancel_left]
theorem qp5{L:Str}{i:Nat}(hi:i<L.length):((qcs L).drop (i*7)).take 7=sgC (L.getD i 0):=by
 rw[qmj,List.drop_eq_getElem_cons hi,gdqA,zz hi];rfl
theorem qqb{v n:Nat}{L:Str}{ty:TypeId}{fz:Nat->Bool}{h:wh}{d:Nat}(hn:n=L.length):VLe (qe9 (some (zg v ty (qcs L))) v 7 0 n (rei fz h (d+1))) (qfJ L):=by
 subst hn;unfold zg;split
 ·rename_i e
  have:L= []:=by
   cases L with
   |nil=>rfl
   |cons a r=>exact absurd e (by simp[qcs,sgC])
  subst this;rw[slOf_emp,ipo rfl];exact qP
 ·rw[slOf_mem,ipo ⟨rfl,by rw[qgW];omega⟩];refine VLe.sl_eq rfl (λi hi=> ?_);simp only[Nat.zero_add];rw[qp5 hi];rfl
theorem qFj(s:Str)(h:wh)(hs:s.length<=1000000):ACalls Tryz.prog 234 [.agg [.str [],.int .i64 0],jQ s,.bool false,.str []] h (.tup [qfJ s,.agg [.str [],.int .i64 0],.bool false]) h:=by
 have z0:jQ s= .sl 1 λ_=> [.int .i64 1,.str s,.int .i64 0,.nl]:=rfl
 refine acO qx0 ?_;simp (disch:=omega) only[qwc,go_sem];refine qn (T:=λi:Nat×Nat×AObj×AObj=>qO 126 [(1,jQ s),(2,.bool false),(3,.str []),(4,.op h.length 1 0),(9,.op (h.length+2) 1 0),(11,.osl (h.length+3) i.2.1 7 0 (if i.1=0 then ([]:Str) else s).length),(12,.bool false),(13,.int .i64 (i.1:Int))])
  (H:=λi=>h++ [.mem 1 117 [.str [],.int .i64 0],.emp 1,.mem 1 117 [.str [],.int .i64 0],zg i.2.1 359 (qcs (if i.1=0 then [] else s)),i.2.2.1,i.2.2.2,.emp 0,.emp 0,.emp 0,.emp 0,.emp 0,.emp 0,.emp 0])
  (inv:=λi=>i.1<=1∧qy [i.2.2.1] 0=true∧qy [i.2.2.2] 0=true) (m:=λi=>1-i.1) (0,1,.emp 0,.emp 0) ⟨nzl _,rfl,rfl⟩ (Wk.temps ?_) ?_
 ·(simp only[go_sem,qf,qc,qa,qe];try exact we)
 rintro⟨i,v,O1,O2⟩ ⟨i1,i2,i3⟩ K hK;simp only at i1 i2 i3 hK;have i2': ∀m,qy (O1::m) 0=true:=λ_=>i2
 have i3': ∀m,qy (O2::m) 0=true:=λ_=>i3
 by_cases hi:i=0
 case neg=>
  obtain rfl:i=1:=by omega
  simp only[ine (show¬(1:Nat)=0 by omega)];simp (disch:=omega) only[z0,go_sem]
  repeat' first|(apply qb;exact rvk;simp only[go_sem])|(with_reducible first|intro _|apply aiA)|exact clz|fail
  exact VLe.tup ⟨qqb rfl,qi,qi,trivial⟩
 subst hi;obtain⟨V,hV⟩:=wg (qo (some O1)+1)
 simp only[if_true];simp (disch:=omega) only[z0,i2',go_sem]
 repeat' first|(apply qb;exact rvk;simp only[go_sem])|(with_reducible first|intro _|apply aiA)|exact clz|fail
 rw[<-hV];refine qn (T:=λk:Nat×Nat×AObj=>qO 126 [(1,jQ s),(2,.bool false),(3,.str []),(4,.op h.length 1 0),(9,.op (h.length+2) 1 0),(11,.osl (h.length+3) k.2.1 7 0 k.1),(12,.bool false),(13,.int .i64 0),(14,.op (h.length+4) V 0),(15,.int .i64 (k.1:Int))])
  (H:=λk=>h++ [.mem 1 117 [.str [],.int .i64 0],.emp 1,.mem 1 117 [.str [],.int .i64 0],zg k.2.1 359 (qcs (s.take k.1)),.mem V 234 [.int .i64 1,.str s,.int .i64 0,.nl],k.2.2,.emp 0,.emp 0,.emp 0,.emp 0,.emp 0,.emp 0,.emp 0])
  (inv:=λk=>k.1<=s.length∧qy [k.2.2] 0=true) (m:=λk=>s.length-k.1) (0,v,O2) ⟨nzl _,i3⟩ (Wk.temps ?_) ?_
 ·(simp only[go_sem,qf,qc,qa,qe];try exact we)
 rintro⟨k,v2,P⟩ ⟨k1,k2⟩ K2 hK2;simp only at k1 k2 hK2;have k2': ∀m,qy (P::m) 0=true:=λ_=>k2
 by_cases hk:k<s.length
 case neg=>
  obtain rfl:k=s.length:=by omega
  have m1:((s.length:Int)<s.length)=False:=wm;rw[List.take_length];simp (disch:=omega) only[m1,go_sem];refine hK _ _ (1,v2,.mem V 234 [.int .i64 1,.str s,.int .i64 0,.nl],P) ⟨nlr _,rfl,k2⟩ (by simp only;omega) (Wk.temps ?_)
  (simp only[go_sem,qf,qc,qa,qe];try exact we)
 have m1:((k:Int)<s.length)=True:=wl;have m2:(0<=(k:Int))=True:=wl;have eL:(s.take k).length=k:=by rw[List.length_take];omega
 obtain⟨c,hc⟩:=wg (ch s k)
 have ec:=hc.symm;have hS:s.take (k+1)=s.take k++ [c]:=by
  rw[List.take_add_one,zz hk,hc];unfold ch;rw[gdqA,zz hk];rfl
 obtain⟨L,hL⟩:=wg (s.take k)
 rw[<-hL]at hS eL ⊢;have eC:=qgW L;have eTk:List.take (k*7) (qcs L)=qcs L:=ltl om;simp (disch:=omega) only[m1,m2,k2',j8,ec,eC,eL,eTk,go_sem]
 repeat' first|with_reducible apply aiA|exact clz|fail
 have eA:qcs L++sgC c=qcs (s.take (k+1)):=by rw[hS,qp4,qp6]
 simp only[sgC]at eA
 try rw[eA]
 refine hK2 _ _ (k+1,v2+1,.mem (qo (some P)+1) 359 (sgC c)) ⟨hk,rfl⟩ (by simp only;omega) ?_;simp only[hS,sgC];refine Wk.temps ?_
 (simp only[go_sem,qf,qc,qa,qe];try exact we)
end RC
end
section
open Go Go.Proofs AF
def qts:List Nat:= []
@[go_sem]def vL:DT:= DT.one ⟨some 114,none,.b2s,[.t 113]⟩ (DT.one ⟨some 115,none,.bin .add,[.t 105,.t 114]⟩ (DT.one ⟨some 116,none,.fldA 0,[.t 8]⟩ (DT.one ⟨none,none,.store 1,[.t 116,.t 115]⟩
 DT.nil)))
@[go_sem]def vM:DT:= DT.one ⟨some 105,none,.load none,[.t 104]⟩ vL
def qwd:C:=
 (vU [ON 2 (.nilo 0 6 119) []] (vU [ON 3 (.nilo 1 6 119) []] (vU [MC 4 (.bool false),MC 5 (.bool false)] ((vU [vO 6 0] (C.block 0 ((v6 11 6 0 0).seq (C.block 1 (vU [MV 15 0,MV 16
 6,O2 17 (.idxA 7) 15 16,O1 18 (.load (some 7)) 17,⟨some 7,none,.alloc 2 359 [.int .u8 0,i6 0,.bool false,.bool false,.str [],.str [],i6 0],[]⟩,ST 7 7 18] ((vU [vN 19 0 7,LD 20
 19,BC 21 .eql 20 (.int .u8 0),MV 22 21,P1 23 22 true (.fldA 1) 7,P1 24 22 true (.load none) 23,PC 25 22 true (.bin .eql) 24 (i6 0),PF 26 22 25] (vV 26 (vU [MV 27 5,MV 28 27,v7
 29 28 2 7,v8 30 28 29,PT 31 28 30,MC 4 (.bool false),MV 5 31] (vU [MV 32 6,vP 33 .add 32 1,MV 6 33] (C.exit 1))))).seq ((vU [vN 34 0 7,LD 35 34,BC 36 .neq 35 (.int .u8 0),MV 37
 36,P1 38 37 true (.fldA 0) 7,P1 39 37 true (.load none) 38,P1 40 37 true (.call 163 true) 39,PC 41 37 true (.bin .eql) 40 (i6 6),PF 42 37 41] (vV 42 (vU [MC 4 (.bool false)]
 (vU [MV 43 6,vP 44 .add 43 1,MV 6 44] (C.exit 1))))).seq (vU [vN 45 5 7,O1 46 (.load (some 2)) 45,vN 47 4 7,LD 48 47,⟨some 49,none,.build [.str [],.str [],.str [],i6 0,i6
 0,.str []] [(2,2),(5,1)],[.t 46,.t 48]⟩,⟨some 8,none,.alloc 3 119 [.str [],.str [],.str [],i6 0,i6 0,.str []],[]⟩,ST 6 8 49] (vU [vN 50 3 7,LD 51 50,MV 9 51] (vU [vO 10 1]
 ((C.block 2 (vU [vN 59 1 7,LD 60 59,vP 61 .gtr 60 0,MV 58 61] (C.cond (.t 58) (vY [vN 62 1 7,LD 63 62,O1 64 (.call 116 true) 63,ON 65 (.bin .add) [.c (.str [91]),.t 64],BC 66
 .add 65 (.str [93]),vN 67 0 8,ST 1 67 66,vN 68 4 8,⟨none,none,.store 1,[.t 68,.c (i6 2)]⟩]) (vU [vN 70 0 7,LD 71 70,O1 72 (.call 299 true) 71,MV 69 72] (C.cond (.t 69) (vU [vN
 73 0 7,LD 74 73,⟨some 75,none,.bslc 4 1 1 5 [.int .u8 0] [(0,1)],[.t 74]⟩,O1 76 .b2s 75,vN 77 0 8,ST 1 77 76] (C.block 3 ((vU [MV 78 6,MV 79 10,BI 80 .add 78 79,MV 81 0,O1 82
 .len 81,BI 83 .lss 80 82,MV 84 83,MG 85 84 true 0,MG 86 84 true 6,MG 87 84 true 10,P2 88 84 true (.bin .add) 86 87,P2 89 84 true (.idxA 7) 85 88,P1 90 84 true (.fldA 0) 89,P1
 91 84 true (.load none) 90,PC 92 84 true (.bin .neq) 91 (.int .u8 0),PF 93 84 92,MV 94 93,MG 95 94 true 0,MG 96 94 true 6,MG 97 94 true 10,P2 98 94 true (.bin .add) 96 97,P2 99
 94 true (.idxA 7) 95 98,P1 100 94 true (.fldA 0) 99,P1 101 94 true (.load none) 100,P1 102 94 true (.call 213 true) 101,PF 103 94 102] (vW 103 3)).seq (C.block 4 ((C.draw
 (DT.one ⟨some 106,none,.mv,[.t 0]⟩ (DT.one ⟨some 107,none,.mv,[.t 6]⟩ (DT.one ⟨some 108,none,.mv,[.t 10]⟩ (DT.one ⟨some 109,none,.bin .add,[.t 107,.t 108]⟩ (DT.one ⟨some
 110,none,.idxA 7,[.t 106,.t 109]⟩ (DT.one ⟨some 111,none,.fldA 0,[.t 110]⟩ (DT.one ⟨some 112,none,.load none,[.t 111]⟩ ((DT.one ⟨some 104,none,.fldA 0,[.t 8]⟩ ((DT.one ⟨some
 105,none,.load none,[.t 104]⟩ (DT.one ⟨some 113,none,.bslc 5 1 1 5 [.int .u8 0] [(0,1)],[.t 112]⟩ vL)).two (DT.one ⟨some 113,none,.bslc 5 1 1 5 [.int .u8 0] [(0,1)],[.t 112]⟩
 vM))).two (DT.one ⟨some 113,none,.bslc 5 1 1 5 [.int .u8 0] [(0,1)],[.t 112]⟩ (DT.one ⟨some 104,none,.fldA 0,[.t 8]⟩ vM))))))))))).seq (vU [MV 117 9,MV 118 117,vS 119 118 0,vS
 120 118 6,vS 121 118 10,vR 122 118 (.bin .add) 120 121,vR 123 118 (.idxA 7) 119 122,v7 124 118 3 123,v8 125 118 124,PT 126 118 125,MV 9 126] (vZ 127 10))))).loop)) (vY [vN 52 0
 7,LD 53 52,⟨some 54,none,.bslc 6 1 1 5 [.int .u8 0] [(0,1)],[.t 53]⟩,O1 55 .b2s 54,vN 56 0 8,ST 1 56 55,vN 57 4 8,⟨none,none,.store 1,[.t 57,.c (i6 8)]⟩])))))).seq (((C.wk.seq
 (vY [MV 129 9])).seq (vV 129 (vY [vN 130 4 8,LD 131 130,vP 132 .add 131 1,vN 133 4 8,ST 1 133 132]))).seq ((vU [MV 134 5] (vV 134 (vY [vN 135 4 8,LD 136 135,vP 137 .add 136
 4,vN 138 4 8,ST 1 138 137]))).seq ((vU [MV 139 4,MV 140 139,MG 141 140 true 3,P1 142 140 true .len 141,PC 143 140 true (.bin .gtr) 142 (i6 0),PF 144 140 143] (vV 144 (vY [vN
 145 4 8,LD 146 145,vP 147 .add 146 16,vN 148 4 8,ST 1 148 147]))).seq (vU [vN 149 0 8,LD 150 149,vN 151 1 8,ST 1 151 150] (vU [MV 152 3,O1 153 (.load (some 6)) 8,⟨some
 154,none,.bslc 7 6 1 119 [.str [],.str [],.str [],i6 0,i6 0,.str []] [(0,6)],[.t 153]⟩,O2 155 (.app 8 6 119 80) 152 154,MV 3 155] (vU [MC 4 (.bool true),MC 5 (.bool false)] (vY
 [MV 156 6,MV 157 10,BI 158 .add 156 157,MV 6 158])))))))))))))))).loop)).seq (vX [MV 159 3,MV 2 159])))))
theorem qx1:qI Tryz.prog 235 160 9 [RV.tmp 2] qwd:=fi Tryz.f235 [2,3,7,8,75,113,54,154,155] qts [24]
end
