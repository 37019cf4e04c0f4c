import Derived.Test.YtmieflnoheifbaaGreatDoorK14
import Derived.Test.YtmieflnoheifbaaGreatDoorK11
import Derived.Test.YtmieflnoheifbaaGreatDoorK3
import Derived.Test.YtmieflnoheifbaaGreatDoorK5
import Derived.Test.YtmieflnoheifbaaGreatDoorK8
import Derived.Test.YtmieflnoheifbaaGreatDoorProg
import Derived.Test.YtmieflnoheifbaaGreatDoorK12
import Derived.Test.YtmieflnoheifbaaGreatDoorK9
import Derived.Test.YtmieflnoheifbaaGreatDoorK10
set_option linter.all false
set_option maxHeartbeats 128000000
set_option maxRecDepth 100000
section
open Go Go.Proofs AF HY LN
namespace RC
theorem qsT(x:Co)(l:List Un)(h:wh)(hz:qbd x)(hu:qcS l)(hp:cb SG h):ACalls Tryz.prog 66 [.agg (coC x),qZ l] h (.int .i64 (vaE x l)) h:=by
 have c1:=λl'=>coP x (h++l') hz (hp.app l')
 have c2:=λl'=>vaP x l (h++l') hz hu (hp.app l')
 have hE:vaE x l=(if coE x≠0 then 1 else if rgB x l=false then 20 else 0):=rfl
 by_cases g:coE x=0
 case neg=>
  have k1:(coE x=0)=False:=eqf g;rw[ipo g]at hE;rw[hE];unfold coC at c1;refine acO qtq ?_;simp (disch:=omega) only[qCd,coC,go_sem]
  repeat' first|(refine cA (c1 _) flk ?_;simp (disch:=omega) only[k1,go_sem])|exact wa|fail
 rw[ine (by simpa using g)]at hE;simp only[g]at c1
 by_cases g2:rgB x l=false
 ·rw[ipo g2]at hE;rw[hE];simp only[hE]at c2;unfold coC at c1 c2;refine acO qtq ?_;simp (disch:=omega) only[qCd,coC,go_sem]
  repeat' first|((first|refine cA (c1 _) ?_ ?_|refine cA (c2 _) ?_ ?_);exact flk;simp (disch:=omega) only[go_sem])|(apply qb;exact rvk;simp only[go_sem];first|exact qi|apply qg)|(with_reducible first|intro _|apply aiA)|exact clz|fail
 ·rw[ine g2]at hE;rw[hE];simp only[hE]at c2;unfold coC at c1 c2;refine acO qtq ?_;simp (disch:=omega) only[qCd,coC,go_sem]
  repeat' first|((first|refine cA (c1 _) ?_ ?_|refine cA (c2 _) ?_ ?_);exact flk;simp (disch:=omega) only[go_sem])|exact wa|fail
def plG(x:Co)(l:List Un)(d:List Dc)(n:Nat):List Int:=(d.take n).map (kQ x l)
def qAE(x:Co)(l:List Un)(d:List Dc):List Int:=if UY x l d=0 then plG x l d d.length else []
theorem qDT(x:Co)(l:List Un)(d:List Dc)(h:wh)(hz:qbd x)(hu:qcS l)(hp:cb SG h)(hg:jf h frmN frmC)(h1:coE x=0)(hd:d.length<=1000000)(ht: ∀o∈d,o.txt.length<=1000):ACalls Tryz.prog 67 [.agg (coC x),qZ l,kz d] h (.tup [qx (qAE x l d),.int .i64 (UY x l d)]) h:=by
 unfold qAE
 by_cases g:256<d.length
 ·have k1:((256:Int)<d.length)=True:=wj;have hE:UY x l d=4:=by unfold UY;rw[ipo g]
  rw[hE,ine (by decide)];refine acO qzI ?_;simp (disch:=omega) only[qCC,coC,kz,k1,go_sem]
  repeat' first|(apply qb;exact rvk;simp only[go_sem])
  exact VLe.tup ⟨qU,qi,trivial⟩
 have k1:((256:Int)<d.length)=False:=wl;have hE:UY x l d=qah (λi=>qao x l (d.getD i default)) 0 d.length:=by unfold UY;rw[ine g]
 rw[hE];refine acO qzI ?_;simp (disch:=omega) only[qCC,coC,kz,k1,go_sem];refine qk (T:=λs:Nat×Nat×AObj×AObj×AObj=>qP 38 [(1,qZ l),(3,.op h.length 1 0),(16,kz d),(17,.int .i64 d.length),(18,.int .i64 s.1),(8,.osl (h.length+2) s.2.1 1 0 s.1)])
  (H:=λs=>h++ [.mem 1 26 (coC x),.emp 1,zw s.2.1 3 (qM (plG x l d s.1)),s.2.2.1,s.2.2.2.1,s.2.2.2.2])
  (inv:=λs=>s.1<=d.length∧(∀j,j<s.1->qao x l (d.getD j default)=0)∧qz [s.2.2.1] 0=true∧qz [s.2.2.2.1] 0=true∧qz [s.2.2.2.2] 0=true) (m:=λs=>d.length-s.1) (0,1,.emp 0,.emp 0,.emp 0) ⟨nzl _,λj hj=>absurd hj (nnz j),rfl,rfl,rfl⟩ (Wk.temps ?_) ?_
 ·(simp only[kz,go_sem,qf,qc,qa,qe];try exact we)
 rintro⟨i,v,O1,O2,O3⟩ ⟨i1,i0,i2,i3,i4⟩ K hK;simp only at i0 i1 i2 i3 i4 hK;have i2': ∀m,qz (O1::m) 0=true:=λ_=>i2
 have i3': ∀m,qz (O2::m) 0=true:=λ_=>i3
 have i4': ∀m,qz (O3::m) 0=true:=λ_=>i4
 have eL:(plG x l d i).length=i:=by unfold plG;rw[List.length_map,List.length_take];omega
 by_cases hi:i<d.length
 ·have k2:((i:Int)<d.length)=True:=wj;obtain⟨o,ho⟩:=wg (d.getD i default)
  have eo:=ho.symm;have hom:o∈d:=by rw[ho];exact zS hi
  have hS:plG x l d (i+1)=plG x l d i++ [kQ x l o]:=by
   unfold plG;rw[List.take_add_one,zD hi,List.map_append,ho,gdqA,zD hi];rfl
  have c1:=λl'=>dpP x l o (h++l') hz hu (hp.app l') hg.app h1 (ht o hom)
  by_cases g3:qao x l o=0
  case neg=>
   have k3:(qao x l o=0)=False:=eqf g3;have hf:qah (λi=>qao x l (d.getD i default)) 0 d.length=qao x l o:=by
    rw[Ux hi i0 (by rw[eo];exact g3),eo]
   rw[hf,ine g3];unfold coC dcC at c1;simp (disch:=omega) only[coC,kz,dcC,k2,eo,i2',go_sem]
   repeat' first|(refine cA (c1 _) flk ?_;simp (disch:=omega) only[k3,i3',go_sem])|(apply qb;exact rvk;simp only[go_sem])|with_reducible apply aiA|exact clz|fail
   exact VLe.tup ⟨qU,qi,trivial⟩
  unfold dpN at c1;rw[g3]at c1;simp only[if_true]at c1;obtain⟨L,hL⟩:=wg (plG x l d i)
  rw[<-hL]at hS eL ⊢;have eC:=ja L;have eTk:List.take i (qM L)=qM L:=ltl om;unfold coC dcC at c1;simp (disch:=omega) only[coC,kz,dcC,k2,eo,i2',go_sem]
  repeat' first|(refine cA (c1 _) flk ?_;simp (disch:=omega) only[i3',eC,eL,eTk,Nat.mul_one,go_sem])|with_reducible apply aiA|exact clz|fail
  rw[show qM L++ [AV.int IntKind.i64 (kQ x l o)]=qM (L++ [kQ x l o]) by simp[qM],<-hS];refine hK _ _ (i+1,v+1,.mem (qo (some O1)+1) 65 (dcC o),.mem (qo (some O2)+1) 3 [.int .i64 (kQ x l o)],O3) ⟨hi,λj hj=> ?_,rfl,rfl,i4⟩ (by simp only;omega) ?_
  ·by_cases e:j=i
   ·rw[e,eo];exact g3
   ·exact i0 j om
  refine Wk.temps ?_
  (simp only[kz,dcC,go_sem,qf,qc,qa,qe];try exact we)
 have k2:((i:Int)<d.length)=False:=wl;obtain rfl:i=d.length:=by omega
 have hf:qah (λi=>qao x l (d.getD i default)) 0 d.length=0:=jO i0;rw[hf,ipo rfl];simp (disch:=omega) only[k2,go_sem]
 repeat' first|(apply qb;exact rvk;simp only[go_sem])
 exact VLe.tup ⟨qqn (λ_=>rfl) eL.symm,qi,trivial⟩
def pcC(p:Pc):wi:=tkC p.t++ [.int .i64 p.c]
def spX(x:Co)(s f d:Nat):List wi:=(spk x s f d).map λp=> [.agg (pcC p)]
theorem qBg(x:Co)(f t s:Nat)(h:wh):ACalls Tryz.prog 72 [.agg (coC x),.int .i64 (f:Int),.int .i64 (t:Int),.int .i64 (s:Int)] h (.fn (.func 146) [] [.ip [.int .i64 (f:Int)],.ip [.int .i64 (t:Int)],.ip (coC x),.ip [.int .i64 (s:Int)]]) h:=by
 unfold coC;refine acO qDj ?_;simp (disch:=omega) only[qEJ,go_sem]
 repeat' first|exact wa|fail
theorem qmP(x:Co)(s f d:Nat):(spX x s f d).length=(spk x s f d).length:=by unfold spX;rw[List.length_map]
theorem quW(x:Co)(s f:Nat): ∀d e,d<=e-> ∃r,spk x s f e=spk x s f d++r:=by
 intro d e h
 induction e with
 |zero=>
  obtain rfl:d=0:=by omega
  exact⟨[],by simp⟩
 |succ e ih=>
  by_cases g:d=e+1
  ·subst g;exact⟨[],by simp⟩
  ·obtain⟨r,hr⟩:=ih om;refine⟨r++(if pcB x s (f+e)=true then [pcT x s (f+e)] else []),?_⟩
   conv=>lhs;unfold spk
   rw[hr,List.append_assoc]
theorem qBd{x:Co}{s f k d:Nat}(hk:k<d)(hb:pcB x s (f+k)=true): ∃g:(spk x s f k).length<(spX x s f d).length,(spX x s f d)[(spk x s f k).length]= [.agg (pcC (pcT x s (f+k)))]∧(spk x s f (k+1)).length=(spk x s f k).length+1:=by
 have e1:spk x s f (k+1)=spk x s f k++ [pcT x s (f+k)]:=by
  conv=>lhs;unfold spk
  rw[ipo hb]
 obtain⟨r,hr⟩:=quW x s f (k+1) d hk;refine⟨by rw[qmP,hr,e1];simp,?_,by rw[e1];simp⟩;unfold spX;simp only[List.getElem_map,hr,e1];rw[List.getElem_append_left (by simp),List.getElem_append_right (nlr _)];simp
structure SpS where
 k:Nat
 hh:wh
theorem itS(x:Co)(s f t:Nat)(hz:qbd x)(ho:CoOk x)(hs:s<x.sig.length)(ht:t<=x.col.length)(ft:f<=t):qnH Tryz.prog 146 [.ip [.int .i64 (f:Int)],.ip [.int .i64 (t:Int)],.ip (coC x),.ip [.int .i64 (s:Int)]] (spX x s f (t-f)):=by
 intro h ts LI S E hS hE body start hts;have hsg:=hz.sg;have hcl:=hz.cl;have htn:=ho.tn;have htl:=hz.tl s;have q5:(0<=(s:Int))=True:=wj;have q6:((s:Int)<x.tok.length)=True:=wj;refine acQ qye ?_;simp (disch:=omega) only[qwe,coC,go_sem]
 repeat' first|with_reducible apply aiA|exact clz|fail
 refine qk (T:=λi:SpS=>qP 39 [(0,.yld h.length),(2,.ip [.int .i64 (t:Int)]),(3,.ip (coC x)),(4,.ip [.int .i64 (s:Int)]),(6,.int .i64 ((f+i.k:Nat):Int))]) (H:=λi=>i.hh++ [.lp .ready ts LI])
  (inv:=λi=>f+i.k<=t∧S (spk x s f i.k).length i.hh) (m:=λi=>t-f-i.k) ⟨0,h⟩ ⟨by simp only;omega,start⟩ (Wk.temps ?_) ?_
 ·(simp only[coC,go_sem,qf,qc,qa,qe];try exact we)
 rintro⟨k,hh⟩ ⟨i1,i4⟩ K hK;simp only at i1 i4 hK;obtain⟨hlen,hlow⟩:=hS _ _ i4;have hb:(h++ [AObj.lp LS.ready ts LI]).length=(hh++ [AObj.lp LS.ready ts LI]).length:=by simp[hlen]
 by_cases hi:f+k<t
 ·have q0:(((f+k:Nat):Int)<t)=True:=wj;have q1:(0<=((f+k:Nat):Int))=True:=wj;have q2:(((f+k:Nat):Int)<x.col.length)=True:=wj;obtain⟨c,hcx⟩:=wg (x.col.getD (f+k) [])
  have ec:=hcx.symm;have hcl2:=ho.cl (f+k) om;have hce:=ho.ce (f+k) om s hs;rw[ec]at hcl2 hce;have q3:((s:Int)<c.length)=True:=wj;have hpb:pcB x s (f+k)=decide (0<=c.getD s 0):=by unfold pcB;rw[ec]
  by_cases g:0<=c.getD s 0
  ·obtain⟨N,hN⟩: ∃N:Nat,c.getD s 0=N:=⟨(c.getD s 0).toNat,om⟩
   have hNt:N<(x.tok.getD s []).length:=by
    rcases hce with e|⟨_,e⟩
    ·omega
    ·rw[hN]at e;omega
   have q4:(0<=(N:Int))=True:=wj;obtain⟨T,hT⟩:=wg (x.tok.getD s [])
   have eT:=hT.symm;rw[eT]at hNt;have q7:((N:Int)<T.length)=True:=wj;obtain⟨hdl,hxx,hln⟩:=qBd (x:=x) (s:=s) (f:=f) (k:=k) (d:=t-f) om (by rw[hpb,dqt g]);have hpc:pcT x s (f+k)=⟨T.getD N default,((f+k:Nat):Int)⟩:=by
    unfold pcT;rw[ec,eT,hN,itn]
   have hb':=body _ hh [] hdl i4;rw[hxx,hpc]at hb';unfold pcC tkC at hb';simp only[lca,lna]at hb';simp (disch:=omega) only[coC,qv,qx,qn,zy,tkC,q0,q1,q2,q3,q4,q5,q6,q7,ec,hN,eT,go_sem]
   repeat' first|with_reducible apply aiA|exact clz|fail
   ·exact⟨.ready,ts,LI,kT hlen⟩
   ·refine kr.mono ?_ hb';rintro v h' ⟨hh',⟨rfl,hn',rfl⟩|⟨st,rfl,hs',rfl⟩⟩
    ·simp (disch:=omega) only[go_sem];refine hK _ _ ⟨k+1,hh'⟩ ⟨by simp only;omega,by simp only;rw[hln];exact hn'⟩ (by simp only;omega) (Wk.temps ?_)
     (simp only[coC,go_sem,qf,qc,qa,qe];try exact we)
    ·simp (disch:=omega) only[go_sem];obtain⟨r1,r2⟩:=(hE _ _ hs').ret (L:=LI) st hts;exact jN trivial r1 r2 ⟨_,.inr ⟨st,hs',rfl⟩⟩ (qi)
  ·have q4:(0<=c.getD s 0)=False:=eqf g;have e1:spk x s f (k+1)=spk x s f k:=by
    conv=>lhs;unfold spk
    rw[hpb,dqf g,ine (by decide),lan]
   simp (disch:=omega) only[coC,qv,qx,q0,q1,q2,q3,q4,q5,ec,go_sem]
   repeat' first|with_reducible apply aiA|exact clz|fail
   refine hK _ _ ⟨k+1,hh⟩ ⟨by simp only;omega,by rw[e1];exact i4⟩ (by simp only;omega) (Wk.temps ?_)
   (simp only[coC,go_sem,qf,qc,qa,qe];try exact we)
 ·have q0:(((f+k:Nat):Int)<t)=False:=wl;have hk:k=t-f:=by omega
  rw[hk]at i4;simp (disch:=omega) only[coC,qv,q0,go_sem]
  repeat' first|with_reducible apply aiA|exact clz|fail
  obtain⟨r1,r2⟩:=(hS _ _ i4).ret (L:=LI) .ready hts;exact jN trivial r1 r2 ⟨hh,.inl ⟨by rw[qmP];exact i4,rfl⟩⟩ (qi)
end RC
end
section
open Go Go.Proofs AF
def qph:List Nat:= []
def qwA:C:=
 (vU [O1 2 (.box 0 140) 0,ON 4 (.nilo 1 7 131) []] (((C.wk.seq (vY [MV 6 1])).seq (C.block 0 (C.range (.t 6) [7] (vY [⟨some 5,none,.alloc 2 131 [.str [],.str [],.str [],i6 0,i6
 0,.str [],i6 0],[]⟩,ST 7 5 7]) (C.block 1 (vY [LD 8 2,O1 9 (.load (some 7)) 5,⟨some 10,none,.bslc 3 7 1 131 [.str [],.str [],.str [],i6 0,i6 0,.str [],i6 0] [(0,7)],[.t 9]⟩,O2
 11 (.app 4 7 131 88) 8 10,ST 1 2 11]))))).seq (vX [LD 12 2,MV 4 12])))
theorem qyB:qG Tryz.prog 223 13 5 [RV.tmp 4] qwA:=fi Tryz.f223 [2,4,5,10,11] qph [1]
end
section
open Go Go.Proofs AF HY LN
namespace RC
def qay(L:List Pc):wi:=L.flatMap pcC
instance:Inhabited Pc:=⟨⟨default,0⟩⟩
def qek(L:List Pc):AV:= .sl L.length λi=>pcC (L.getD i default)
theorem qkV(l:List Pc):(qek l).flag=true:=rfl
theorem qiG(l:List Pc):(qek l).strip=qek l:=rfl
theorem qp4{fz:Nat->Bool}{h:wh}{n:Nat}(l:List Pc):rei fz h (n+1) (qek l)=qek l:=rfl
theorem qo7{fz:Nat->Bool}{h:wh}{n:Nat}(l:List Pc):frz fz h (n+1) (qek l)=qek l:=rfl
attribute [go_sem] qkV qiG qp4 qo7
theorem qlT(p:Pc):(pcC p).length=7:=rfl
theorem qdK(L:List Pc):(qay L).length=L.length*7:=by
 unfold qay
 induction L with
 |nil=>rfl
 |cons a L ih=>rw[List.flatMap_cons,lap,ih,lco,qlT];omega
theorem qaU(A B:List Pc):qay (A++B)=qay A++qay B:=by simp[qay]
theorem qaV(a:Pc):qay [a]=pcC a:=by simp[qay]
theorem qlV(L:List Pc): ∀i,(qay L).drop (i*7)=qay (L.drop i):=by
 induction L with
 |nil=>intro i;simp[qay]
 |cons a L ih=>
  intro i;cases i with
  |zero=>simp
  |succ i=>
   rw[show qay (a::L)=pcC a++qay L from rfl,show (a::L).drop (i+1)=L.drop i from rfl,<-ih i];rw[show (i+1)*7=(pcC a).length+i*7 by rw[qlT];omega,List.drop_append,List.drop_eq_nil_of_le om,lna,Nat.add_sub_cancel_left]
theorem qpN{L:List Pc}{i:Nat}(hi:i<L.length):((qay L).drop (i*7)).take 7=pcC (L.getD i default):=by
 rw[qlV,List.drop_eq_getElem_cons hi,gdqA,zD hi];rfl
theorem qpO(L:List Pc)(n:Nat): ∀c∈qay L,qV n c=true:=by
 intro c hc;unfold qay at hc;obtain⟨x,_,hx⟩:=List.mem_flatMap.1 hc;unfold pcC tkC at hx;simp only[lca,lna,List.mem_cons,List.not_mem_nil,or_false]at hx;rcases hx with rfl|rfl|rfl|rfl|rfl|rfl|rfl<;>rfl
theorem qhd{v n:Nat}{L:List Pc}{ty:TypeId}{fz:Nat->Bool}{h:wh}{d:Nat}(hn:n=L.length):VLe (qe4 (some (zw v ty (qay L))) v 7 0 n (rei fz h (d+1))) (qek L):=by
 subst hn;unfold zw;split
 ·rename_i e
  have:L= []:=by
   cases L with
   |nil=>rfl
   |cons a r=>exact absurd e (by simp[qay,pcC,tkC])
  subst this;rw[slOf_emp,ipo rfl];exact qU
 ·rw[slOf_mem,ipo ⟨rfl,by rw[qdK];omega⟩];refine VLe.sl_eq rfl (λi hi=> ?_);simp only[Nat.zero_add];rw[qpN hi];rfl
theorem qFm(f:FuncId)(A B C D:wi)(L:List Pc)(h:wh)(hf:qnH Tryz.prog f [.ip A,.ip B,.ip C,.ip D] (L.map λp=> [.agg (pcC p)]))(hL:L.length<=1000000000):ACalls Tryz.prog 223 [.nl,.fn (.func f) [] [.ip A,.ip B,.ip C,.ip D]] h (qek L) h:=by
 refine acO qyB ?_;simp (disch:=omega) only[qwA,go_sem];refine⟨_,_,Wk.ownNil (j:=h.length) (i:=0) (k:=h.length+4) (v:=1) (ty:=140) (cs:= [.nl]) (ve:=0) (sz:=7) ?m1 rfl ?m2,?_⟩
 case m1=>simp only[go_sem]
 case m2=>simp only[go_sem]
 simp (disch:=omega) only[List.set_cons_zero,go_sem];have hxl:(L.map λp=> [AV.agg (pcC p)]).length=L.length:=List.length_map ..;have hLow: ∀(i n:Nat) O1 O2,(∀n,lowO n O1)->(∀n,lowO n O2)->LowI (h++ [.mem 1 140 [.osl (h.length+4) 0 7 0 0],.emp 1,.emp 0,.emp 0,.emp 0]) (h++ [.mem 1 140 [.osl (h.length+4) i 7 0 n],.emp 1,O1,O2,zw i 131 (qay (L.take i))]):=λi n O1 O2 l1 l2=>by
  refine⟨by simp,λo ho=> ?_⟩;rcases List.mem_append.1 ho with h1|h1
  ·exact .inl (List.mem_append_left _ h1)
  ·simp only[List.mem_cons,List.not_mem_nil,or_false]at h1;have hb: ∀n,lowO n (zw i 131 (qay (L.take i))):=λn=>jE (qpO _ n)
   rcases h1 with rfl|rfl|rfl|rfl|rfl
   ·right;refine⟨λc hc=> ?_,λc hc=> ?_⟩<;>
    ·rw[List.mem_singleton]at hc;subst hc;simp[qV]
     try omega
   ·left;simp
   ·right;exact⟨l1 _,l1 _⟩
   ·right;exact⟨l2 _,l2 _⟩
   ·right;exact⟨hb _,hb _⟩
 refine zJ hf (λa ha=> ?_)
  (S:=λi hh=> ∃O1 O2,qz [O1] 0=true∧qz [O2] 0=true∧(∀n,lowO n O1)∧(∀n,lowO n O2)∧hh=h++ [.mem 1 140 [.osl (h.length+4) i 7 0 i],.emp 1,O1,O2,zw i 131 (qay (L.take i))]) (E:=λ_ _=>False) ?_ ?_ ?_ ?_ ?_ ?_ ?_
 ·obtain⟨c,_,rfl⟩:=List.mem_map.1 ha;rfl
 ·rintro i hh ⟨O1,O2,_,_,l1,l2,rfl⟩;exact hLow _ _ _ _ l1 l2
 ·intro s hh hf;exact hf.elim
 ·exact⟨.emp 0,.emp 0,rfl,rfl,λ_=>trivial,λ_=>trivial,rfl⟩
 ·simp[qV,qV.lowVs]
  try omega
 ·rintro i hh tl LI TS hi ⟨O1,O2,s1,s2,l1,l2,rfl⟩ hlen K K2 hK hN hR' hX;have hi':i<L.length:=by rw[hxl]at hi;exact hi
  rw[List.getElem_map];have s1': ∀m,qz (O1::m) 0=true:=λ_=>s1
  have s2': ∀m,qz (O2::m) 0=true:=λ_=>s2
  have hS:L.take (i+1)=L.take i++ [L.getD i default]:=by
   rw[List.take_add_one,zD hi',gdqA,zD hi'];rfl
  have eG:L[i]=L.getD i default:=by rw[gdqA,zD hi'];rfl
  rw[eG];obtain⟨p,hp⟩:=wg (L.getD i default)
  rw[<-hp]at hS ⊢;obtain⟨M,hM⟩:=wg (L.take i)
  have eM:M.length=i:=by rw[hM,List.length_take];omega
  rw[<-hM]at hS ⊢;have eC:=qdK M;have eTk:List.take (i*7) (qay M)=qay M:=ltl om;simp only[kN,List.append_assoc,lca,lna];simp (disch:=omega) only[s1',pcC,tkC,go_sem];refine hK _ _ (h++ [.mem 1 140 [.osl (h.length+4) i 7 0 i],.emp 1,.mem (qo (some O1)+1) 131 (pcC p),O2,zw i 131 (qay M)]) ?_ ?_ ?_
  ·simp[pcC,tkC]
  ·simp
  ·simp only[List.append_assoc,lca,lna];simp (disch:=omega) only[s2',pcC,tkC,eC,eTk,eM,go_sem]
   repeat' first|with_reducible apply aiA|exact clz|fail
   have eA:qay M++ [AV.str p.t.text,AV.str p.t.norm,AV.str p.t.page,.int .i64 p.t.line,.int .i64 p.t.flags,.str p.t.name,.int .i64 p.c]=qay (M++ [p]):=by rw[qaU,qaV];rfl
   refine hN _ _ (h++ [.mem 1 140 [.osl (h.length+4) (i+1) 7 0 (i+1)],.emp 1,.mem (qo (some O1)+1) 131 (pcC p),.mem (qo (some O2)+1) 131 (pcC p),zw (i+1) 131 (qay (M++ [p]))]) ?_ ?_ ⟨_,_,rfl,rfl,?_,?_,by rw[hS]⟩
   ·rw[<-eA];simp[pcC,tkC];exact nlr _
   ·simp
   ·intro n c hc;simp[pcC,tkC]at hc;rcases hc with rfl|rfl|rfl|rfl|rfl|rfl|rfl<;>rfl
   ·intro n c hc;simp[pcC,tkC]at hc;rcases hc with rfl|rfl|rfl|rfl|rfl|rfl|rfl<;>rfl
 ·rintro hh ⟨O1,O2,s1,s2,l1,l2,rfl⟩;rw[hxl,List.take_length];simp (disch:=omega) only[go_sem]
  repeat' first|(apply qb;exact rvk;simp only[go_sem])|with_reducible apply aiA|exact clz|fail
  exact qhd rfl
 ·intro e hh hf;exact hf.elim
theorem qFy(f:FuncId)(A B C D:wi)(L:List Pc)(h:wh)(hf:qnH Tryz.prog f [.ip A,.ip B,.ip C,.ip D] (L.map λp=> [.agg (pcC p)]))(hL:L.length<=1000000000):ACalls Tryz.prog 148 [.fn (.func f) [] [.ip A,.ip B,.ip C,.ip D]] h (qek L) h:=by
 have c1:=λh=>qFm f A B C D L h hf hL
 refine acO qyg ?_;simp (disch:=omega) only[qwg,go_sem]
 repeat' first|(refine cA (c1 _) flk ?_;simp (disch:=omega) only[go_sem])|exact wa|fail
theorem qFZ(h:wh):ACalls Tryz.prog 73 [] h (.agg [.nilfn,.fn (.func 147) [] [],.fn (.func 149) [] [],.fn (.func 151) [] []]) h:=by
 refine acO qDk ?_;simp (disch:=omega) only[qEK,go_sem]
 repeat' first|exact wa|fail
theorem qFY(x:Co)(u:Un)(o:Dc)(h:wh):ACalls Tryz.prog 151 [.agg (coC x),.agg (unC u),.agg (dcC o)] h (qek []) h:=by
 refine acO qyj ?_;simp (disch:=omega) only[qwj,coC,unC,dcC,go_sem]
 repeat' first|(apply qb;exact rvk;simp only[go_sem])
 exact qU
theorem qFW(x:Co)(u:Un)(o:Dc)(s f t:Nat)(h:wh)(hz:qbd x)(ho:CoOk x)(hx:qX x o.sig=s)(hs:s<x.sig.length)(hf:u.frm=f)(hu:u.to=t)(ht:t<=x.col.length)(ft:f<=t):ACalls Tryz.prog 147 [.agg (coC x),.agg (unC u),.agg (dcC o)] h (qek (spk x s f (t-f))) h:=by
 have c1:=λh=>qtQ x.sig.length (λj=>x.sig.getD j []) o.sig h hz.sg
 have hS:qbE (λj=>decide (o.sig=x.sig.getD j [])) x.sig.length 0=qX x o.sig:=rfl;simp only[hS,hx]at c1;have c2:=λh=>qBg x f t s h
 have hcl:=hz.cl;have c3:=λh=>qFy 146 [.int .i64 (f:Int)] [.int .i64 (t:Int)] (coC x) [.int .i64 (s:Int)] (spk x s f (t-f)) h (itS x s f t hz ho hs ht ft) (Nat.le_trans (qd1 x s f (t-f)) om)
 unfold coC at c2 c3;refine acO qyf ?_;simp (disch:=omega) only[qwf,coC,unC,dcC,strs,hf,hu,go_sem]
 repeat' first|((first|refine cA (c1 _) ?_ ?_|refine cA (c2 _) ?_ ?_|refine cA (c3 _) ?_ ?_);exact flk;simp (disch:=omega) only[strs,go_sem])|exact wa|fail
 done
def cjP(L:List Tk)(f:Int):List Pc:=L.map λt=>⟨t,f⟩
theorem qsU(L:List Tk)(f:Int):(cjP L f).length=L.length:=List.length_map ..
theorem qgh{s:Str}{t:Tk}(h:t∈qav s):t.name= []∧(t.flags=0∨t.flags=16∨t.flags=8∨t.flags=24):=by
 obtain⟨a,⟨e,g⟩,rfl,_⟩:=qgi s h;refine⟨by rw[e];rfl,?_⟩;show a.flags=0∨a.flags=16∨a.flags=8∨a.flags=24;rcases g with⟨g|g,_⟩|⟨g|g,_⟩
 ·exact .inl g
 ·exact .inr (.inl g)
 ·exact .inr (.inr (.inl g))
 ·exact .inr (.inr (.inr g))
theorem qFX(x:Co)(u:Un)(o:Dc)(h:wh)(hl:o.txt.length<=1000)(hs:o.txt≠ [])(hc:zz o.txt=0)(he:qcA o.txt=0)(hg:jf h frmN frmC):ACalls Tryz.prog 149 [.agg (coC x),.agg (unC u),.agg (dcC o)] h (qek (cjP (qav o.txt) u.frm)) h:=by
 have c1:=λl=>qFw o.txt (h++l) hl hs hc hg.app
 have hT:qhl o.txt=qav o.txt:=by unfold qhl;rw[ipo he]
 rw[hT]at c1;have hfl:=λt=> @qgh o.txt t
 have hTl:=UC o.txt;obtain⟨T,hTe⟩:=wg (qav o.txt)
 rw[<-hTe]at c1 hTl hfl ⊢;have zu: ∀g l,valL g .len [zy l]= .int .i64 l.length:=λ_ _=>rfl
 have zv: ∀g l,okL g .len [zy l]=True:=λ_ _=>eqt trivial
 refine acO qyh ?_;simp (disch:=omega) only[qwh,coC,unC,dcC,go_sem]
 repeat' first|(refine cA (c1 _) flk ?_;simp (disch:=omega) only[zu,zv,go_sem])|with_reducible apply aiA|exact clz|fail
 refine qk (T:=λs:Nat×Nat×AObj×AObj=>qP 32 [(4,.op (h.length+1) 1 0),(12,zy T),(13,.int .i64 T.length),(14,.int .i64 s.1),(7,.osl (h.length+4) s.2.1 7 0 s.1)])
  (H:=λs=>h++ [.mem 1 26 (coC x),.mem 1 39 (unC u),.mem 1 65 (dcC o),.emp 1,zw s.2.1 131 (qay (cjP (T.take s.1) u.frm)),s.2.2.1,s.2.2.2,.emp 0])
  (inv:=λs=>s.1<=T.length∧qz [s.2.2.1] 0=true∧qz [s.2.2.2] 0=true) (m:=λs=>T.length-s.1) (0,1,.emp 0,.emp 0) ⟨nzl _,rfl,rfl⟩ (Wk.temps ?_) ?_
 ·(simp only[zy,go_sem,qf,qc,qa,qe];try exact we)
 rintro⟨i,v,O1,O2⟩ ⟨i1,i2,i3⟩ K hK;simp only at i1 i2 i3 hK;have i2': ∀m,qz (O1::m) 0=true:=λ_=>i2
 have i3': ∀m,qz (O2::m) 0=true:=λ_=>i3
 have eL:(cjP (T.take i) u.frm).length=i:=by rw[qsU,List.length_take];omega
 by_cases hi:i<T.length
 ·have k2:((i:Int)<T.length)=True:=wj;obtain⟨t,ht⟩:=wg (T.getD i default)
  have et:=ht.symm;obtain⟨hn,hf⟩:=hfl t (by rw[ht];exact zS hi);have hS:cjP (T.take (i+1)) u.frm=cjP (T.take i) u.frm++ [⟨t,u.frm⟩]:=by
   unfold cjP;rw[List.take_add_one,zD hi,List.map_append,ht,gdqA,zD hi];rfl
  obtain⟨L,hL⟩:=wg (cjP (T.take i) u.frm)
  rw[<-hL]at hS eL ⊢;have eC:=qdK L;have eTk:List.take (i*7) (qay L)=qay L:=ltl om;obtain⟨tx,nm,pg,ln,fl,na⟩:=t;simp only at hn hf;subst hn;rcases hf with rfl|rfl|rfl|rfl
  all_goals
   simp (disch:=omega) only[coC,unC,dcC,zy,tkC,k2,et,i2',i3',eC,eL,eTk,go_sem]
   repeat' first|with_reducible apply aiA|exact clz|fail
  ·refine hK _ _ (i+1,v+1,.mem (qo (some O1)+1) 119 (tkC ⟨tx,nm,pg,ln,0,[]⟩),.mem (qo (some O2)+1) 131 (pcC ⟨⟨tx,nm,pg,ln,0,[]⟩,u.frm⟩)) ⟨hi,rfl,rfl⟩ (by simp only;omega) ?_;simp only[hS,pcC,tkC,qaU,qaV,lca,lna];refine Wk.temps ?_
   (simp only[zy,tkC,go_sem,qf,qc,qa,qe];try exact we)
  ·refine hK _ _ (i+1,v+1,.mem (qo (some O1)+1) 119 (tkC ⟨tx,nm,pg,ln,16,[]⟩),.mem (qo (some O2)+1) 131 (pcC ⟨⟨tx,nm,pg,ln,16,[]⟩,u.frm⟩)) ⟨hi,rfl,rfl⟩ (by simp only;omega) ?_;simp only[hS,pcC,tkC,qaU,qaV,lca,lna];refine Wk.temps ?_
   (simp only[zy,tkC,go_sem,qf,qc,qa,qe];try exact we)
  ·refine hK _ _ (i+1,v+1,.mem (qo (some O1)+1) 119 (tkC ⟨tx,nm,pg,ln,8,[]⟩),.mem (qo (some O2)+1) 131 (pcC ⟨⟨tx,nm,pg,ln,8,[]⟩,u.frm⟩)) ⟨hi,rfl,rfl⟩ (by simp only;omega) ?_;simp only[hS,pcC,tkC,qaU,qaV,lca,lna];refine Wk.temps ?_
   (simp only[zy,tkC,go_sem,qf,qc,qa,qe];try exact we)
  ·refine hK _ _ (i+1,v+1,.mem (qo (some O1)+1) 119 (tkC ⟨tx,nm,pg,ln,24,[]⟩),.mem (qo (some O2)+1) 131 (pcC ⟨⟨tx,nm,pg,ln,24,[]⟩,u.frm⟩)) ⟨hi,rfl,rfl⟩ (by simp only;omega) ?_;simp only[hS,pcC,tkC,qaU,qaV,lca,lna];refine Wk.temps ?_
   (simp only[zy,tkC,go_sem,qf,qc,qa,qe];try exact we)
 have k2:((i:Int)<T.length)=False:=wl;obtain rfl:i=T.length:=by omega
 simp (disch:=omega) only[k2,go_sem]
 repeat' first|(apply qb;exact rvk;simp only[go_sem])
 rw[List.take_length]at eL ⊢;exact qhd eL.symm
end RC
end
section
open Go Go.Proofs AF
def qtD:List Nat:= [69]
def qvC:C:=
 (vU [O1 4 (.box 0 131) 0] (vU [vN 9 0 4,vN 10 0 9,LD 11 10,vN 12 6 4,LD 13 12,MV 14 1,MV 15 2,vN 16 0 4,vN 17 4 16,LD 18 17,vP 19 .and 18 4,vP 20 .neq 19 0,vN 21 0 4,vN 22 5
 21,LD 23 22,⟨some 24,none,.build [.str [],i6 0,i6 0,i6 0,.bool false,.bool false,.str []] [(0,1),(1,1),(2,1),(3,1),(5,1),(6,1)],[.t 11,.t 13,.t 14,.t 15,.t 20,.t 23]⟩,⟨some
 7,none,.alloc 1 133 [.str [],i6 0,i6 0,i6 0,.bool false,.bool false,.str []],[]⟩,ST 7 7 24] (vU [LD 25 3,O1 26 .len 25,MV 8 26] (vU [vN 27 0 4,vN 28 4 27,LD 29 28,vP 30 .and 29
 16,vP 31 .neq 30 0,MV 32 31,MG 33 32 true 8,PC 34 32 true (.bin .gtr) 33 (i6 0),PF 35 32 34,MV 36 35,P1 37 36 true (.load none) 3,MG 38 36 true 8,PC 39 36 true (.bin .sub) 38
 (i6 1),P2 40 36 true (.idxA 7) 37 39,P1 41 36 true (.fldA 0) 40,P1 42 36 true (.load none) 41,P1 43 36 true (.fldA 0) 7,P1 44 36 true (.load none) 43,P2 45 36 true (.call 70
 true) 42 44,PF 46 36 45,vN 47 4 7,ST 1 47 46] (vY [LD 48 3,O1 49 (.load (some 7)) 7,⟨some 50,none,.bslc 2 7 1 133 [.str [],i6 0,i6 0,i6 0,.bool false,.bool false,.str []]
 [(0,7)],[.t 49]⟩,O2 51 (.app 3 7 133 64) 48 50,ST 1 3 51])))))
theorem qk8:qG Tryz.prog 69 52 4 [] qvC:=fi Tryz.f69 [4,7,50,51] qtD []
end
section
open Go Go.Proofs AF HY LN
namespace RC
theorem qvW: ∀f:Nat,f<32->qnI .i64 (f:Int) 4=if f.testBit 2 then 4 else 0:=by decide+kernel
theorem qq7: ∀f:Nat,f<32->qnI .i64 (f:Int) 16=if f.testBit 4 then 16 else 0:=by decide+kernel
def qtY(W:List Wd):Option Str:=if W.length=0 then none else some (W.getD (W.length-1) default).text
section
variable {h : wh} {a b c va : Nat}
def qui(h:wh)(a b c:Nat)(va vb:Nat)(W:List Wd)(Z:AObj):wh:=tri h a b c (.mem va 45 [.osl b vb 7 0 W.length]) (zw vb 133 (zG W)) Z
theorem qFj(t:T3 h a b c)(W:List Wd)(p:Pc)(u d:Int)(vb F:Nat)(Z:AObj)(hZ: ∀n,lowO n Z)(hF:p.t.flags=F)(hF2:F<32)(hx:p.t.text.length<=1000000000)(hW:W.length<=1000000000)(hWx: ∀w∈W,w.text.length<=1000000000):ACalls Tryz.prog 69 [.agg (pcC p),.int .i64 u,.int .i64 d,.op a va 0] (qui h a b c va vb W Z) (.tup []) (qui h a b c va (vb+1) (W++ [mkW (qtY W) ⟨p,u,d⟩]) Z):=by
 have ta:=t.la;have tb:=t.lb;have tc:=t.lc;have zga: ∀ {X Y Z l},qu (a) (tri h a b c X Y Z++l)=some X:=UG (t);have yga: ∀ {X Y Z},qu (a) (tri h a b c X Y Z)=some X:=λ{X Y Z}=>by have:=zga (X:=X) (Y:=Y) (Z:=Z) (l:= []);simpa only[lan] using this
 have zgb: ∀ {X Y Z l},qu (b) (tri h a b c X Y Z++l)=some Y:=U0 (t);have ygb: ∀ {X Y Z},qu (b) (tri h a b c X Y Z)=some Y:=λ{X Y Z}=>by have:=zgb (X:=X) (Y:=Y) (Z:=Z) (l:= []);simpa only[lan] using this
 have zgc: ∀ {X Y Z l},qu (c) (tri h a b c X Y Z++l)=some Z:=UH (t);have ygc: ∀ {X Y Z},qu (c) (tri h a b c X Y Z)=some Z:=λ{X Y Z}=>by have:=zgc (X:=X) (Y:=Y) (Z:=Z) (l:= []);simpa only[lan] using this
 have zsa: ∀ {X Y Z o l},qt (a) (tri h a b c X Y Z++l) o=tri h a b c o Y Z++l:=U1 (t);have ysa: ∀ {X Y Z o},qt (a) (tri h a b c X Y Z) o=tri h a b c o Y Z:=λ{X Y Z o}=>by have:=zsa (X:=X) (Y:=Y) (Z:=Z) (o:=o) (l:= []);simpa only[lan] using this
 have zsb: ∀ {X Y Z o l},qt (b) (tri h a b c X Y Z++l) o=tri h a b c X o Z++l:=qaj (t);have ysb: ∀ {X Y Z o},qt (b) (tri h a b c X Y Z) o=tri h a b c X o Z:=λ{X Y Z o}=>by have:=zsb (X:=X) (Y:=Y) (Z:=Z) (o:=o) (l:= []);simpa only[lan] using this
 have zsc: ∀ {X Y Z o l},qt (c) (tri h a b c X Y Z++l) o=tri h a b c X Y o++l:=qak (t);have ysc: ∀ {X Y Z o},qt (c) (tri h a b c X Y Z) o=tri h a b c X Y o:=λ{X Y Z o}=>by have:=zsc (X:=X) (Y:=Y) (Z:=Z) (o:=o) (l:= []);simpa only[lan] using this
 have zca: ∀ {X Y Z v l},cellsOf (tri h a b c X Y Z++l) (a) v=qw (some X) v:=qa4 (t);have yca: ∀ {X Y Z v},cellsOf (tri h a b c X Y Z) (a) v=qw (some X) v:=λ{X Y Z v}=>by have:=zca (X:=X) (Y:=Y) (Z:=Z) (v:=v) (l:= []);simpa only[lan] using this
 have zcb: ∀ {X Y Z v l},cellsOf (tri h a b c X Y Z++l) (b) v=qw (some Y) v:=qa5 (t);have ycb: ∀ {X Y Z v},cellsOf (tri h a b c X Y Z) (b) v=qw (some Y) v:=λ{X Y Z v}=>by have:=zcb (X:=X) (Y:=Y) (Z:=Z) (v:=v) (l:= []);simpa only[lan] using this
 have zcc: ∀ {X Y Z v l},cellsOf (tri h a b c X Y Z++l) (c) v=qw (some Z) v:=qa6 (t);have ycc: ∀ {X Y Z v},cellsOf (tri h a b c X Y Z) (c) v=qw (some Z) v:=λ{X Y Z v}=>by have:=zcc (X:=X) (Y:=Y) (Z:=Z) (v:=v) (l:= []);simpa only[lan] using this
 have zla: ∀ {X Y Z v l},qH (tri h a b c X Y Z++l) (a) v=qJ (some X) v:=qa7 (t);have yla: ∀ {X Y Z v},qH (tri h a b c X Y Z) (a) v=qJ (some X) v:=λ{X Y Z v}=>by have:=zla (X:=X) (Y:=Y) (Z:=Z) (v:=v) (l:= []);simpa only[lan] using this
 have zlb: ∀ {X Y Z v l},qH (tri h a b c X Y Z++l) (b) v=qJ (some Y) v:=qa8 (t);have ylb: ∀ {X Y Z v},qH (tri h a b c X Y Z) (b) v=qJ (some Y) v:=λ{X Y Z v}=>by have:=zlb (X:=X) (Y:=Y) (Z:=Z) (v:=v) (l:= []);simpa only[lan] using this
 have zlc: ∀ {X Y Z v l},qH (tri h a b c X Y Z++l) (c) v=qJ (some Z) v:=qa9 (t);have ylc: ∀ {X Y Z v},qH (tri h a b c X Y Z) (c) v=qJ (some Z) v:=λ{X Y Z v}=>by have:=zlc (X:=X) (Y:=Y) (Z:=Z) (v:=v) (l:= []);simpa only[lan] using this
 have e4:=qvW F hF2;have e16:=qq7 F hF2;have hL:=j9 W;have ev:qvh p.t.flags=F.testBit 2:=by unfold qvh;rw[hF,itn]
 have ej:jnB p.t.flags=F.testBit 4:=by unfold jnB;rw[hF,itn]
 unfold mkW;simp only[ev,ej];unfold qui;have eTk:List.take (W.length*7) (zG W)=zG W:=ltl om;have lo: ∀(n:Nat),lowO h.length (.mem va 45 [.osl b (vb+1) 7 0 n]):=λn cc hc=>by
  rw[List.mem_singleton]at hc;subst hc;simp[qV];omega
 have lq: ∀L:List Wd,lowO h.length (zw (vb+1) 133 (zG L)):=λL=>jE (qcd L _)
 have fin: ∀(w:Wd) (tt:wi) (tl:wh),fnQ [] (tri h a b c (.mem va 45 [.osl b vb 7 0 W.length]) (zw vb 133 (zG W)) Z) (λr1 h1=>r1= .tup []∧h1=tri h a b c (.mem va 45 [.osl b (vb+1) 7 0 (W++ [w]).length]) (zw (vb+1) 133 (zG (W++ [w]))) Z) .normal tt (tri h a b c (.mem va 45 [.osl b (vb+1) 7 0 (W.length+1)]) (zw (vb+1) 133 (zG W++wdC w)) Z++tl):=λw tt tl=>by
  have eA:zG W++wdC w=zG (W++ [w]):=by rw[UD,qce]
  rw[eA,show (W++ [w]).length=W.length+1 by simp];exact zX trivial (by simp only[tri_len]) (jS t (lo _) (lq _) (hZ _)) ⟨rfl,rfl⟩ (qi)
 have k4:((4:Int)=0)=False:=eqf (by decide);have k16:((16:Int)=0)=False:=eqf (by decide);have hb1: ∀n,(b !=h.length+n)=true:=λn=>by simp;omega
 by_cases hW0:W= []
 ·have k0:((0:Int)<W.length)=False:=eqf (by rw[hW0];simp);have eG:(qw (some (zw vb 133 (zG W))) vb).getD []=zG W:=by rw[hW0];rfl
  have el:qtY W=none:=by unfold qtY;rw[ipo (by rw[hW0];rfl)]
  rw[el];cases g2:F.testBit 2<;>cases g4:F.testBit 4<;>rw[g2]at e4<;>rw[g4]at e16<;>simp only[Bool.false_eq_true,if_false,if_true]at e4 e16
  all_goals
   refine acO qk8 ?_;simp (disch:=omega) only[qvC,pcC,tkC,hF,e4,e16,zca,zcb,zlb,zk,qm,eG,hL,k0,k4,k16,decide_true,decide_false,Bool.not_false,Bool.not_true,Bool.and_false,go_sem]
   repeat' first|(refine qj ( .bool false) ?_;simp (disch:=omega) only[zga,zgb,zsa,zsb,zca,zcb,zlb,zk,qm,eG,eTk,hL,Bool.not_false,Bool.and_false,go_sem])|with_reducible apply aiA|exact clz|fail
  all_goals try exact hb1 _
  all_goals exact fin ⟨_,_,_,_,_,_,_⟩ _ _
 ·have hpos:0<W.length:=List.length_pos_iff.2 hW0;have k0:((0:Int)<W.length)=True:=wj;obtain⟨z,hz⟩:=wg (W.getD (W.length-1) default)
  have el:qtY W=some z.text:=by unfold qtY;rw[ine om,hz]
  rw[el];have hzx:=hWx z (by rw[hz];exact zS om);have gI:(zG W)[(W.length-1)*7]? =some (.str z.text):=by
   have:=qcc (L:=W) (i:=W.length-1) om
   rw[<-hz]at this;have h2:(((zG W).drop ((W.length-1)*7)).take 7)[0]? =some (.str z.text):=by rw[this];rfl
   rwa [List.getElem?_take,ipo om,List.getElem?_drop,Nat.add_zero]at h2
  have eI:((W.length:Int)-1).toNat=W.length-1:=by omega
  have eO:qw (some (zw vb 133 (zG W))) vb=some (zG W):=by
   rw[c8 (λe=>by rw[e]at hL;simp at hL;omega),qm,ipo rfl]
  have c1:=λh=>qFU z.text p.t.text h hzx hx
  cases g2:F.testBit 2<;>cases g4:F.testBit 4<;>rw[g2]at e4<;>rw[g4]at e16<;>simp only[Bool.false_eq_true,if_false,if_true]at e4 e16
  case false.false=>
   refine acO qk8 ?_;simp (disch:=omega) only[qvC,pcC,tkC,hF,e4,e16,zca,zcb,zlb,zk,qm,eO,hL,k0,decide_true,Bool.not_false,Bool.not_true,Bool.and_true,Bool.false_and,Bool.true_and,eI,gI,go_sem]
   repeat' first|(refine qj ( .bool false) ?_;simp (disch:=omega) only[zga,zgb,zsa,zsb,zca,zcb,zlb,zk,qm,eO,eTk,hL,Bool.not_false,Bool.false_and,Bool.true_and,go_sem])|with_reducible apply aiA|exact clz|fail
   all_goals try exact hb1 _
   exact fin ⟨_,_,_,_,_,_,_⟩ _ _
  case false.true=>
   refine acO qk8 ?_;simp (disch:=omega) only[qvC,pcC,tkC,hF,e4,e16,zca,zcb,zlb,zk,qm,eO,hL,k0,k16,decide_true,decide_false,Bool.not_false,Bool.not_true,Bool.and_true,Bool.false_and,Bool.true_and,eI,gI,go_sem]
   repeat' first|(refine cG (λe=>c1 _) flk ?_;simp (disch:=omega) only[zga,zgb,zsa,zsb,zca,zcb,zlb,zk,qm,eO,eTk,hL,Bool.not_true,Bool.false_and,Bool.true_and,go_sem])|with_reducible apply aiA|exact clz|fail
   all_goals try exact hb1 _
   exact fin ⟨_,_,_,_,_,_,_⟩ _ _
  case true.false=>
   refine acO qk8 ?_;simp (disch:=omega) only[qvC,pcC,tkC,hF,e4,e16,zca,zcb,zlb,zk,qm,eO,hL,k0,k4,decide_true,decide_false,Bool.not_false,Bool.not_true,Bool.and_true,Bool.false_and,Bool.true_and,eI,gI,go_sem]
   repeat' first|(refine qj ( .bool false) ?_;simp (disch:=omega) only[zga,zgb,zsa,zsb,zca,zcb,zlb,zk,qm,eO,eTk,hL,Bool.not_false,Bool.false_and,Bool.true_and,go_sem])|with_reducible apply aiA|exact clz|fail
   all_goals try exact hb1 _
   exact fin ⟨_,_,_,_,_,_,_⟩ _ _
  case true.true=>
   refine acO qk8 ?_;simp (disch:=omega) only[qvC,pcC,tkC,hF,e4,e16,zca,zcb,zlb,zk,qm,eO,hL,k0,k4,k16,decide_true,decide_false,Bool.not_false,Bool.not_true,Bool.and_true,Bool.false_and,Bool.true_and,eI,gI,go_sem]
   repeat' first|(refine cG (λe=>c1 _) flk ?_;simp (disch:=omega) only[zga,zgb,zsa,zsb,zca,zcb,zlb,zk,qm,eO,eTk,hL,Bool.not_true,Bool.false_and,Bool.true_and,go_sem])|with_reducible apply aiA|exact clz|fail
   all_goals try exact hb1 _
   exact fin ⟨_,_,_,_,_,_,_⟩ _ _
end
structure qvO (x:Co) (l:List Un) (d:List Dc) (s:Nat):Prop where
 ca:coE x=0
 us:qbc x l=true
 cv:cvA x l=true
 sl:s<x.sig.length
 dl:d.length<=256
 pl: ∀j,j<d.length->qao x l (d.getD j default)=0
 ln:(rwA x l d s).length<=1024
theorem qdl{x:Co}{l:List Un}(h:vaE x l=0):coE x=0∧qbc x l=true∧cvA x l=true:=by
 unfold vaE at h;split at h
 ·cases h
 rename_i h1;split at h
 ·cases h
 rename_i h2;have h2:rgB x l=true:=by simpa using h2
 unfold rgB at h2;rw[Bool.and_eq_true]at h2;exact⟨Classical.not_not.1 h1,h2.1,h2.2⟩
theorem ql9{x:Co}{l:List Un}{d:List Dc}(h:UY x l d=0):d.length<=256∧ ∀j,j<d.length->qao x l (d.getD j default)=0:=by
 unfold UY at h;split at h
 ·cases h
 exact⟨om,jW.1 h⟩
theorem qrh{x:Co}{l:List Un}{d:List Dc}{s:Int}(h:esE x l d s=0):0<=s∧qvO x l d s.toNat:=by
 unfold esE at h;split at h
 ·rename_i h1;exact absurd h h1
 rename_i h1;split at h
 ·cases h
 rename_i h2;split at h
 ·rename_i h3;exact absurd h h3
 rename_i h3;split at h
 ·cases h
 rename_i h4;obtain⟨a1,a2,a3⟩:=qdl (Classical.not_not.1 h1);obtain⟨b1,b2⟩:=ql9 (Classical.not_not.1 h3);exact⟨om,a1,a2,a3,om,b1,b2,om⟩
theorem qgY{x:Co}(h:CoOk x){s k:Nat}(hs:s<x.sig.length)(hk:k<x.col.length)(hb:pcB x s k=true):tkE (pcT x s k).t=0∧((x.col.getD k []).getD s 0).toNat<(x.tok.getD s []).length:=by
 unfold pcB at hb;have hb:=of_decide_eq_true hb;rcases h.ce k hk s hs with e|⟨e1,e2⟩
 ·omega
 ·exact⟨h.te s (by rw[h.tn];exact hs) _ om,om⟩
theorem qu1{t:Tk}(h:tkE t=0):t.text≠ []∧t.text.length<=64:=by
 have h1:=qBl h;unfold txB at h1;split at h1
 ·rw[Bool.and_eq_true]at h1;have h2:=h1.1;unfold qeE at h2;rw[List.any_eq_true]at h2;obtain⟨k,hk,e⟩:=h2;rw[of_decide_eq_true e];refine⟨List.cons_ne_nil _ _,?_⟩;have h3:((List.range 64).all λk=>decide ((91::(Lib.itoa ((k+1:Nat):Int)++ [93]):Str).length<=64))=true:=by decide+kernel
  exact of_decide_eq_true (List.all_eq_true.1 h3 k hk)
 ·split at h1
  ·rw[Bool.and_eq_true]at h1;have h2:=h1.1;unfold qvF at h2;rw[Bool.and_eq_true,decide_eq_true_iff]at h2;refine⟨λe=> ?_,om⟩;rw[e]at h2;cases h2.1
  ·rw[Bool.and_eq_true]at h1;have h2:=h1.1;rw[qaQ]at h2;simp only[Bool.and_eq_true,decide_eq_true_eq]at h2;refine⟨λe=> ?_,om⟩;rw[e]at h2;simp at h2
def PcF(p:Pc):Prop:=(∃F:Nat,p.t.flags=F∧F<32)∧p.t.text.length<=64
theorem qdJ{p:Pc}(h:tkE p.t=0):PcF p:=by
 refine⟨?_,(qu1 h).2⟩;unfold tkE at h;split at h
 ·cases h
 ·rename_i g;exact⟨p.t.flags.toNat,om,om⟩
theorem UW{x:Co}(ho:CoOk x){s f d:Nat}(hs:s<x.sig.length)(hd:f+d<=x.col.length): ∀p∈spk x s f d,PcF p:=by
 intro p hp;obtain⟨k,k1,k2,k3,rfl⟩:=qtZ.1 hp;exact qdJ (qgY ho hs om k3).1
theorem qrR{s:Str}{f:Int}(h:qcA s=0): ∀p∈cjP (qav s) f,PcF p:=by
 intro p hp;unfold cjP at hp;obtain⟨t,ht,rfl⟩:=List.mem_map.1 hp;obtain⟨_,g⟩:=qgh ht;refine⟨?_,?_⟩
 ·rcases g with g|g|g|g
  ·exact⟨0,g,om⟩
  ·exact⟨16,g,om⟩
  ·exact⟨8,g,om⟩
  ·exact⟨24,g,om⟩
 ·unfold qcA at h;split at h
  ·cases h
  ·rename_i g2;have g3:=qbm.1 (Bool.eq_false_iff.2 g2);obtain⟨u,_,e,hu⟩:=qgi s ht
   have:=g3 u hu
   rw[e];exact this
theorem qn8{L:List Rw}{n:Nat}(h: ∀r∈L,r.p.t.text.length<=n): ∀w∈bsW L,w.text.length<=n:=by
 intro w hw;unfold bsW at hw;obtain⟨i,hi,rfl⟩:=List.mem_map.1 hw;rw[List.mem_range]at hi;exact h _ (zS hi)
theorem qvR{hh:wh}{a b c va vb:Nat}{Z:AObj}(t:T3 hh a b c)(L:List Rw)(p:Pc)(u d:Int)(hX:qu a hh=some (.mem va 45 [.osl b vb 7 0 L.length]))(hY:qu b hh=some (zw vb 133 (zG (bsW L))))(hZg:qu c hh=some Z)(hZ: ∀n,lowO n Z)(hp:PcF p)(hL:L.length<=1000000000)(hLx: ∀r∈L,PcF r.p):
  ACalls Tryz.prog 69 [.agg (pcC p),.int .i64 u,.int .i64 d,.op a va 0] hh (.tup []) (qt b (qt a hh (.mem va 45 [.osl b (vb+1) 7 0 (L.length+1)])) (zw (vb+1) 133 (zG (bsW (L++ [⟨p,u,d⟩]))))):=by
 obtain⟨⟨F,f1,f2⟩,f3⟩:=hp;have h1:=qFj (va:=va) t (bsW L) p u d vb F Z hZ f1 f2 om (by rw[jx];exact hL) (λw hw=>Nat.le_trans (qn8 (n:=64) (λr hr=>(hLx r hr).2) w hw) om);have e1:qui hh a b c va vb (bsW L) Z=hh:=by
  unfold qui;rw[jx];exact qr1 hX hY hZg
 have e2:qtY (bsW L)=qg0 (L++ [⟨p,u,d⟩]) L.length:=by
  rw[qma];unfold qtY;rw[jx]
 rw[e1,e2,<-qn7]at h1;have e3:qui hh a b c va (vb+1) (bsW (L++ [⟨p,u,d⟩])) Z=qt b (qt a hh (.mem va 45 [.osl b (vb+1) 7 0 (L.length+1)])) (zw (vb+1) 133 (zG (bsW (L++ [⟨p,u,d⟩])))):=by
  unfold qui tri;rw[jx,lap,lco,lnl];refine jR ?_;rw[qT (λe=>t.bc e.symm),qT (λe=>t.ac e.symm)];exact hZg
 rw[e3]at h1;exact h1
end RC
end
section
open Go Go.Proofs AF
end
section
open Go Go.Proofs AF HY LN
namespace RC
theorem qlQ(b:List Wd)(k:Int): ∀n,(owG b k n).length<=n:=by
 intro n
 induction n with
 |zero=>exact nlr _
 |succ n ih=>
  unfold owG;rw[lap];split
  ·simp only[lco,lnl];omega
  ·simp only[lnl];omega
end RC
end
section
open Go Go.Proofs AF
end
section
open Go Go.Proofs AF
end
section
open Go Go.Proofs AF HY LN
namespace RC
theorem qDM(s:Str)(h:wh)(hs:s.length<=1000000000):ACalls Tryz.prog 214 [.str s] h (.bool (qiZ s)) h:=by
 have c1:=λh=>t53 s h hs
 unfold qiZ
 by_cases g:s= []
 ·subst g;rw[dqt rfl,Bool.true_or];refine acO qrn ?_;simp (disch:=omega) only[qsr,go_sem]
  repeat' first|(refine qj ( .bool false) ?_;simp (disch:=omega) only[go_sem])|exact wc|fail
 ·have k1:(s= [])=False:=eqf g;rw[dqf g,Bool.false_or];refine acO qrn ?_;simp (disch:=omega) only[qsr,k1,go_sem]
  repeat' first|(refine cG (λe=>c1 _) flk ?_;simp (disch:=omega) only[go_sem])|exact wc|fail
theorem qtM(c:UInt8):ko c=(decide (kind c=1)||(decide (kind c=2)||(decide (kind c=3)||decide (kind c=4)))):=by
 unfold ko;cases decide (kind c=1)<;>cases decide (kind c=2)<;>cases decide (kind c=3)<;>rfl
theorem qFd(c:UInt8)(h:wh):ACalls Tryz.prog 213 [.int .u8 (c.toNat:Int)] h (.bool (ko c)) h:=by
 have c5:=λh=>qa2 c h
 rw[qtM];obtain⟨k,hk⟩:=wg (kind c)
 rw[<-hk]at c5 ⊢
 by_cases g1:k=1
 ·have q1:(k=1)=True:=eqt g1;rw[dqt g1,Bool.true_or];refine acO qgM ?_;simp (disch:=omega) only[qj2,go_sem]
  repeat' first|(refine cA (c5 _) flk ?_;simp (disch:=omega) only[q1,go_sem])|exact wc|fail
 have q1:(k=1)=False:=eqf g1;rw[dqf g1,Bool.false_or]
 by_cases g2:k=2
 ·have q2:(k=2)=True:=eqt g2;rw[dqt g2,Bool.true_or];refine acO qgM ?_;simp (disch:=omega) only[qj2,go_sem]
  repeat' first|(refine cA (c5 _) flk ?_;simp (disch:=omega) only[q1,q2,go_sem])|exact wc|fail
 have q2:(k=2)=False:=eqf g2;rw[dqf g2,Bool.false_or]
 by_cases g3:k=3
 ·have q3:(k=3)=True:=eqt g3;rw[dqt g3,Bool.true_or];refine acO qgM ?_;simp (disch:=omega) only[qj2,go_sem]
  repeat' first|(refine cA (c5 _) flk ?_;simp (disch:=omega) only[q1,q2,q3,go_sem])|exact wc|fail
 have q3:(k=3)=False:=eqf g3;rw[dqf g3,Bool.false_or];refine acO qgM ?_;simp (disch:=omega) only[qj2,go_sem]
 repeat' first|(refine cA (c5 _) flk ?_;simp (disch:=omega) only[q1,q2,q3,go_sem])|exact wc|fail
theorem qxR: ∀f:Nat,f<32->decide ((f:Int)/2%2=1)=f.testBit 1:=by decide+kernel
theorem qxS: ∀f:Nat,f<32->decide ((f:Int)/8%2=1)=f.testBit 3:=by decide+kernel
theorem tkR(t:Tk)(h:wh)(hz:qq2 t)(hp:cb SG h):ACalls Tryz.prog 138 [.agg (tkC t)] h (.int .i64 (tkE t)) h:=by
 obtain⟨R,hR⟩:=wg (tkE t)
 rw[<-hR];unfold tkE at hR
 by_cases g1:t.flags<0
 ·have k1:(t.flags<0)=True:=eqt g1;rw[ipo (.inl g1)]at hR;rw[hR];refine acO jg ?_;simp (disch:=omega) only[kc,tkC,go_sem]
  repeat' first|exact wa|(with_reducible first|intro _|apply aiA)|exact clz|fail
 have k1:(t.flags<0)=False:=eqf g1
 by_cases g2:31<t.flags
 ·have k2:((31:Int)<t.flags)=True:=eqt g2;rw[ipo (.inr g2)]at hR;rw[hR];refine acO jg ?_;simp (disch:=omega) only[kc,tkC,go_sem]
  repeat' first|exact wa|(with_reducible first|intro _|apply aiA)|exact clz|fail
 have k2:((31:Int)<t.flags)=False:=eqf g2;rw[ine om]at hR;obtain⟨f,hf⟩: ∃f:Nat,t.flags=(f:Int):=⟨t.flags.toNat,om⟩
 have hf2:f<32:=by omega
 have eg:qhY t.flags=f.testBit 1:=by unfold qhY;rw[hf,itn]
 have ek:mkB t.flags=f.testBit 3:=by unfold mkB;rw[hf,itn]
 have dA:=λh=>qCh t.text t.norm t.page t.line t.flags 2 t.name h om om (by decide)
 have dB:=λh=>qCh t.text t.norm t.page t.line t.flags 8 t.name h om om (by decide)
 have cP:=λl=>qDM t.page (h++l) hz.pg
 have cM:=λl=>qDM t.name (h++l) hz.na
 have hG:=λl=>qFK t.text (h++l) hz.tx (hp.app l)
 have cW:=λl=>t93 t.text (h++l) hz.tx
 have cK:=λh=>qa2 (ch t.text 0) h
 have e0:(t.text[0]?).getD 0=ch t.text 0:=by simp[ch,gdqA]
 unfold txB at hR;rw[eg,ek]at hR;rw[hf]at dA dB k1 k2;rw[qxR f hf2]at dA;rw[qxS f hf2]at dB;obtain⟨bp,hbp⟩: ∃b,b=qiZ t.page:=⟨_,rfl⟩
 obtain⟨bm,hbm⟩: ∃b,b=qiZ t.name:=⟨_,rfl⟩
 obtain⟨bg,hbg⟩: ∃b,b=qeE t.text:=⟨_,rfl⟩
 obtain⟨bw,hbw⟩: ∃b,b=ke t.text:=⟨_,rfl⟩
 rw[<-hbp,<-hbm,<-hbg,<-hbw]at hR;simp only[<-hbp]at cP;simp only[<-hbm]at cM;simp only[<-hbg]at hG;simp only[<-hbw]at cW;have eM:qvF t.text=(decide (t.text.length=1)&&(decide (kind (ch t.text 0)=5)||decide (kind (ch t.text 0)=4))):=rfl;have eN:qvG t.norm=(decide (t.norm≠ [])&&(decide (t.norm.length<=64)&&(List.range t.norm.length).all λi=>ko (ch t.norm i))):=rfl;rw[eM,eN]at hR;obtain⟨kd,hkd⟩:=wg (kind (ch t.text 0))
 rw[<-hkd]at hR cK;have q2:(t.text.length=1)=True->((0:Int)<t.text.length)=True:=λe=>eqt (by have:=of_eq_true e;omega)
 cases ga:f.testBit 1<;>cases gb:f.testBit 3<;>rw[ga]at hR dA<;>rw[gb]at hR dB<;>simp only[Bool.false_eq_true,if_true,if_false,and_true,and_false,and_self]at hR
 ·cases bw with
  |false=>
   rw[Bool.false_and,ipo rfl]at hR;rw[hR];refine acO jg ?_;simp (disch:=omega) only[kc,tkC,hf,k1,k2,go_sem]
   repeat' first|((first|refine cA (dA _) ?_ ?_|refine cA (dB _) ?_ ?_|refine cA (cW _) ?_ ?_);exact flk;simp (disch:=omega) only[go_sem])|exact wa|fail
  |true=>
  rw[Bool.true_and]at hR
  by_cases g5:t.norm= []
  ·have k5:(t.norm= [])=True:=eqt g5;rw[dqf (λhc=>hc g5),Bool.false_and,ipo rfl]at hR;rw[hR];refine acO jg ?_;simp (disch:=omega) only[kc,tkC,hf,k1,k2,go_sem]
   repeat' first|((first|refine cA (dA _) ?_ ?_|refine cA (dB _) ?_ ?_|refine cA (cW _) ?_ ?_);exact flk;simp (disch:=omega) only[k5,go_sem])|exact wa|fail
  have k5:(t.norm= [])=False:=eqf g5;rw[dqt g5,Bool.true_and]at hR
  by_cases g6:t.norm.length<=64
  case neg=>
   have k6:((64:Int)<t.norm.length)=True:=wj;rw[dqf g6,Bool.false_and,ipo rfl]at hR;rw[hR];refine acO jg ?_;simp (disch:=omega) only[kc,tkC,hf,k1,k2,go_sem]
   repeat' first|((first|refine cA (dA _) ?_ ?_|refine cA (dB _) ?_ ?_|refine cA (cW _) ?_ ?_);exact flk;simp (disch:=omega) only[k5,k6,go_sem])|exact wa|fail
  have k6:((64:Int)<t.norm.length)=False:=wl;rw[dqt g6,Bool.true_and]at hR;refine acO jg ?_;simp (disch:=omega) only[kc,tkC,hf,k1,k2,go_sem]
  repeat' first|((first|refine cA (dA _) ?_ ?_|refine cA (dB _) ?_ ?_|refine cA (cW _) ?_ ?_);exact flk;simp (disch:=omega) only[k5,k6,go_sem])
  refine qk (T:=λi:Nat=>qP 105 [(1,.op h.length 1 0),(5,.int .i64 i)]) (H:=λ_=>h++ [.mem 1 119 [.str t.text,.str t.norm,.str t.page,.int .i64 t.line,.int .i64 (f:Int),.str t.name]]) (inv:=λi=>i<=t.norm.length∧ ∀j,j<i->ko (ch t.norm j)=true) (m:=λi=>t.norm.length-i) 0 ⟨nzl _,λj hj=>absurd hj (nnz j)⟩ (Wk.temps ?_) ?_
  ·(simp only[go_sem,qf,qc,qa,qe];try exact we)
  rintro i ⟨i1,i2⟩ K hK
  by_cases hi:i<t.norm.length
  ·have r1:((i:Int)<t.norm.length)=True:=wj;have r0:(0<=(i:Int))=True:=wj;have ei:(t.norm[i]?).getD 0=ch t.norm i:=by unfold ch;exact (gdqA).symm
   have cV:=λh=>qFd (ch t.norm i) h
   cases gi:ko (ch t.norm i)with
   |false=>
    rw[gi]at cV;have hall:((List.range t.norm.length).all λi=>ko (ch t.norm i))=false:=by
     rw[List.all_eq_false];exact⟨i,by simpa using hi,by rw[gi];simp⟩
    rw[hall,ipo rfl]at hR;rw[hR];simp (disch:=omega) only[r0,r1,ei,go_sem]
    repeat' first|(refine cA (cV _) flk ?_;simp (disch:=omega) only[go_sem])|exact wa|fail
   |true=>
    rw[gi]at cV;simp (disch:=omega) only[r0,r1,ei,go_sem]
    repeat' first|(refine cA (cV _) flk ?_;simp (disch:=omega) only[go_sem])
    refine hK _ _ (i+1) ⟨hi,λj hj=> ?_⟩ om (Wk.temps ?_)
    ·by_cases e:j=i
     ·subst e;exact gi
     ·exact i2 j om
    ·(simp only[go_sem,qf,qc,qa,qe];try exact we)
  have r1:((i:Int)<t.norm.length)=False:=wl;have hall:((List.range t.norm.length).all λi=>ko (ch t.norm i))=true:=by
   rw[List.all_eq_true];exact λj hj=>i2 j (by have:=List.mem_range.1 hj;omega)
  rw[hall,ine (by simp)]at hR;clear hK
  by_cases g4:t.line<0
  ·have k4:(t.line<0)=True:=eqt g4;rw[ipo g4]at hR;rw[hR];simp (disch:=omega) only[r1,k4,go_sem]
   repeat' first|exact wa|fail
  have k4:(t.line<0)=False:=eqf g4;rw[ine g4]at hR;cases bp with
  |false=>
   rw[ipo (.inl rfl)]at hR;rw[hR];simp (disch:=omega) only[r1,k4,go_sem]
   repeat' first|(refine qj ( .bool false) ?_;simp (disch:=omega) only[go_sem])|(refine cA (cP _) flk ?_;simp (disch:=omega) only[go_sem])|exact wa|fail
  |true=>
  cases bm with
  |false=>
   rw[ipo (.inr rfl)]at hR;rw[hR];simp (disch:=omega) only[r1,k4,go_sem]
   repeat' first|((first|refine cA (cP _) ?_ ?_|refine cG (λe=>cM _) ?_ ?_);exact flk;simp (disch:=omega) only[go_sem])|exact wa|with_reducible apply aiA|exact clz|fail
  |true=>
  rw[ine (by simp)]at hR;rw[hR];simp (disch:=omega) only[r1,k4,go_sem]
  repeat' first|((first|refine cA (cP _) ?_ ?_|refine cG (λe=>cM _) ?_ ?_);exact flk;simp (disch:=omega) only[go_sem])|exact wa|with_reducible apply aiA|exact clz|fail
 ·by_cases g5:t.text.length=1
  case neg=>
   have k5:((t.text.length:Int)=1)=False:=wl;rw[dqf g5,Bool.false_and,Bool.false_and,ipo rfl]at hR;rw[hR];refine acO jg ?_;simp (disch:=omega) only[kc,tkC,hf,k1,k2,go_sem]
   repeat' first|(refine qj ( .int .i64 0) ?_;simp (disch:=omega) only[go_sem])|((first|refine cA (dA _) ?_ ?_|refine cA (dB _) ?_ ?_);exact flk;simp (disch:=omega) only[k5,go_sem])|exact wa|(with_reducible first|intro _|apply aiA)|exact clz|fail
  have k5:((t.text.length:Int)=1)=True:=wj;have k6:((0:Int)<t.text.length)=True:=wj;rw[dqt g5,Bool.true_and]at hR
  by_cases g50:kd=5
  ·have k50:(kd=5)=True:=eqt g50;rw[dqt g50,Bool.true_or,Bool.true_and]at hR
   by_cases g7:t.norm=t.text
   case neg=>
    have k7:(t.norm=t.text)=False:=eqf g7;rw[dqf g7,ipo rfl]at hR;rw[hR];refine acO jg ?_;simp (disch:=omega) only[kc,tkC,hf,k1,k2,false_imp_iff,true_imp_iff,go_sem]
    repeat' first|(refine qj ( .int .i64 0) ?_;simp (disch:=omega) only[false_and,false_imp_iff,true_imp_iff,k7,go_sem])|((first|refine cA (dA _) ?_ ?_|refine cA (dB _) ?_ ?_|refine cG (λe=>cK _) ?_ ?_);exact flk;simp (disch:=omega) only[k5,k6,e0,Int.toNat_zero,k50,false_and,false_imp_iff,true_imp_iff,go_sem])|exact wa|(with_reducible first|intro _|apply aiA)|exact clz|fail
   have k7:(t.norm=t.text)=True:=eqt g7;rw[dqt g7,ine (by simp)]at hR
   by_cases g4:t.line<0
   ·have k4:(t.line<0)=True:=eqt g4;rw[ipo g4]at hR;rw[hR];refine acO jg ?_;simp (disch:=omega) only[kc,tkC,hf,k1,k2,false_imp_iff,true_imp_iff,go_sem]
    repeat' first|(refine qj ( .int .i64 0) ?_;simp (disch:=omega) only[false_and,false_imp_iff,true_imp_iff,k7,k4,go_sem])|((first|refine cA (dA _) ?_ ?_|refine cA (dB _) ?_ ?_|refine cG (λe=>cK _) ?_ ?_);exact flk;simp (disch:=omega) only[k5,k6,e0,Int.toNat_zero,k50,false_and,false_imp_iff,true_imp_iff,go_sem])|exact wa|with_reducible apply aiA|exact clz|fail
   have k4:(t.line<0)=False:=eqf g4;rw[ine g4]at hR;cases bp with
   |false=>
    rw[ipo (.inl rfl)]at hR;rw[hR];refine acO jg ?_;simp (disch:=omega) only[kc,tkC,hf,k1,k2,false_imp_iff,true_imp_iff,go_sem]
    repeat' first|(refine qj ( .int .i64 0) ?_;simp (disch:=omega) only[false_and,false_imp_iff,true_imp_iff,k7,k4,go_sem])|((first|refine cA (dA _) ?_ ?_|refine cA (dB _) ?_ ?_|refine cG (λe=>cK _) ?_ ?_|refine cA (cP _) ?_ ?_);exact flk;simp (disch:=omega) only[k5,k6,e0,Int.toNat_zero,k50,false_and,false_imp_iff,true_imp_iff,go_sem])|exact wa|with_reducible apply aiA|exact clz|fail
   |true=>
   cases bm with
   |false=>
    rw[ipo (.inr rfl)]at hR;rw[hR];refine acO jg ?_;simp (disch:=omega) only[kc,tkC,hf,k1,k2,false_imp_iff,true_imp_iff,go_sem]
    repeat' first|(refine qj ( .int .i64 0) ?_;simp (disch:=omega) only[false_and,false_imp_iff,true_imp_iff,k7,k4,go_sem])|((first|refine cA (dA _) ?_ ?_|refine cA (dB _) ?_ ?_|refine cG (λe=>cK _) ?_ ?_|refine cA (cP _) ?_ ?_|refine cG (λe=>cM _) ?_ ?_);exact flk;simp (disch:=omega) only[k5,k6,e0,Int.toNat_zero,k50,false_and,false_imp_iff,true_imp_iff,go_sem])|exact wa|with_reducible apply aiA|exact clz|fail
   |true=>
   rw[ine (by simp)]at hR;rw[hR];refine acO jg ?_;simp (disch:=omega) only[kc,tkC,hf,k1,k2,false_imp_iff,true_imp_iff,go_sem]
   repeat' first|(refine qj ( .int .i64 0) ?_;simp (disch:=omega) only[false_and,false_imp_iff,true_imp_iff,k7,k4,go_sem])|((first|refine cA (dA _) ?_ ?_|refine cA (dB _) ?_ ?_|refine cG (λe=>cK _) ?_ ?_|refine cA (cP _) ?_ ?_|refine cG (λe=>cM _) ?_ ?_);exact flk;simp (disch:=omega) only[k5,k6,e0,Int.toNat_zero,k50,false_and,false_imp_iff,true_imp_iff,go_sem])|exact wa|with_reducible apply aiA|exact clz|fail
  have k50:(kd=5)=False:=eqf g50;rw[dqf g50,Bool.false_or]at hR
  by_cases g40:kd=4
  ·have k40:(kd=4)=True:=eqt g40;rw[dqt g40,Bool.true_and]at hR
   by_cases g7:t.norm=t.text
   case neg=>
    have k7:(t.norm=t.text)=False:=eqf g7;rw[dqf g7,ipo rfl]at hR;rw[hR];refine acO jg ?_;simp (disch:=omega) only[kc,tkC,hf,k1,k2,go_sem]
    repeat' first|((first|refine cA (dA _) ?_ ?_|refine cA (dB _) ?_ ?_|refine cG (λe=>cK _) ?_ ?_);exact flk;simp (disch:=omega) only[k5,k6,e0,Int.toNat_zero,k50,k40,k7,go_sem])|exact wa|with_reducible apply aiA|exact clz|fail
   have k7:(t.norm=t.text)=True:=eqt g7;rw[dqt g7,ine (by simp)]at hR
   by_cases g4:t.line<0
   ·have k4:(t.line<0)=True:=eqt g4;rw[ipo g4]at hR;rw[hR];refine acO jg ?_;simp (disch:=omega) only[kc,tkC,hf,k1,k2,go_sem]
    repeat' first|((first|refine cA (dA _) ?_ ?_|refine cA (dB _) ?_ ?_|refine cG (λe=>cK _) ?_ ?_);exact flk;simp (disch:=omega) only[k5,k6,e0,Int.toNat_zero,k50,k40,k7,k4,go_sem])|exact wa|with_reducible apply aiA|exact clz|fail
   have k4:(t.line<0)=False:=eqf g4;rw[ine g4]at hR;cases bp with
   |false=>
    rw[ipo (.inl rfl)]at hR;rw[hR];refine acO jg ?_;simp (disch:=omega) only[kc,tkC,hf,k1,k2,go_sem]
    repeat' first|(refine qj ( .bool false) ?_;simp (disch:=omega) only[go_sem])|((first|refine cA (dA _) ?_ ?_|refine cA (dB _) ?_ ?_|refine cG (λe=>cK _) ?_ ?_|refine cA (cP _) ?_ ?_);exact flk;simp (disch:=omega) only[k5,k6,e0,Int.toNat_zero,k50,k40,k7,k4,go_sem])|exact wa|with_reducible apply aiA|exact clz|fail
   |true=>
   cases bm with
   |false=>
    rw[ipo (.inr rfl)]at hR;rw[hR];refine acO jg ?_;simp (disch:=omega) only[kc,tkC,hf,k1,k2,go_sem]
    repeat' first|((first|refine cA (dA _) ?_ ?_|refine cA (dB _) ?_ ?_|refine cG (λe=>cK _) ?_ ?_|refine cA (cP _) ?_ ?_|refine cG (λe=>cM _) ?_ ?_);exact flk;simp (disch:=omega) only[k5,k6,e0,Int.toNat_zero,k50,k40,k7,k4,go_sem])|exact wa|with_reducible apply aiA|exact clz|fail
   |true=>
   rw[ine (by simp)]at hR;rw[hR];refine acO jg ?_;simp (disch:=omega) only[kc,tkC,hf,k1,k2,go_sem]
   repeat' first|((first|refine cA (dA _) ?_ ?_|refine cA (dB _) ?_ ?_|refine cG (λe=>cK _) ?_ ?_|refine cA (cP _) ?_ ?_|refine cG (λe=>cM _) ?_ ?_);exact flk;simp (disch:=omega) only[k5,k6,e0,Int.toNat_zero,k50,k40,k7,k4,go_sem])|exact wa|with_reducible apply aiA|exact clz|fail
  have k40:(kd=4)=False:=eqf g40;rw[dqf g40,Bool.false_and,ipo rfl]at hR;rw[hR];refine acO jg ?_;simp (disch:=omega) only[kc,tkC,hf,k1,k2,go_sem]
  repeat' first|((first|refine cA (dA _) ?_ ?_|refine cA (dB _) ?_ ?_|refine cG (λe=>cK _) ?_ ?_);exact flk;simp (disch:=omega) only[k5,k6,e0,Int.toNat_zero,k50,k40,go_sem])|exact wa|with_reducible apply aiA|exact clz|fail
 ·cases bg with
  |false=>
   rw[Bool.false_and,ipo rfl]at hR;rw[hR];refine acO jg ?_;simp (disch:=omega) only[kc,tkC,hf,k1,k2,go_sem]
   repeat' first|((first|refine cA (dA _) ?_ ?_|refine cA (dB _) ?_ ?_|refine cA (hG _) ?_ ?_);exact flk;simp (disch:=omega) only[go_sem])|exact wa|fail
  |true=>
  rw[Bool.true_and]at hR
  by_cases g7:t.norm=t.text
  case neg=>
   have k7:(t.norm=t.text)=False:=eqf g7;rw[dqf g7,ipo rfl]at hR;rw[hR];refine acO jg ?_;simp (disch:=omega) only[kc,tkC,hf,k1,k2,go_sem]
   repeat' first|((first|refine cA (dA _) ?_ ?_|refine cA (dB _) ?_ ?_|refine cA (hG _) ?_ ?_);exact flk;simp (disch:=omega) only[k7,go_sem])|exact wa|fail
  have k7:(t.norm=t.text)=True:=eqt g7;rw[dqt g7,ine (by simp)]at hR
  by_cases g4:t.line<0
  ·have k4:(t.line<0)=True:=eqt g4;rw[ipo g4]at hR;rw[hR];refine acO jg ?_;simp (disch:=omega) only[kc,tkC,hf,k1,k2,go_sem]
   repeat' first|((first|refine cA (dA _) ?_ ?_|refine cA (dB _) ?_ ?_|refine cA (hG _) ?_ ?_);exact flk;simp (disch:=omega) only[k7,k4,go_sem])|exact wa|fail
  have k4:(t.line<0)=False:=eqf g4;rw[ine g4]at hR;cases bp with
  |false=>
   rw[ipo (.inl rfl)]at hR;rw[hR];refine acO jg ?_;simp (disch:=omega) only[kc,tkC,hf,k1,k2,go_sem]
   repeat' first|(refine qj ( .bool false) ?_;simp (disch:=omega) only[go_sem])|((first|refine cA (dA _) ?_ ?_|refine cA (dB _) ?_ ?_|refine cA (hG _) ?_ ?_|refine cA (cP _) ?_ ?_);exact flk;simp (disch:=omega) only[k7,k4,go_sem])|exact wa|fail
  |true=>
  cases bm with
  |false=>
   rw[ipo (.inr rfl)]at hR;rw[hR];refine acO jg ?_;simp (disch:=omega) only[kc,tkC,hf,k1,k2,go_sem]
   repeat' first|((first|refine cA (dA _) ?_ ?_|refine cA (dB _) ?_ ?_|refine cA (hG _) ?_ ?_|refine cA (cP _) ?_ ?_|refine cG (λe=>cM _) ?_ ?_);exact flk;simp (disch:=omega) only[k7,k4,go_sem])|exact wa|with_reducible apply aiA|exact clz|fail
  |true=>
  rw[ine (by simp)]at hR;rw[hR];refine acO jg ?_;simp (disch:=omega) only[kc,tkC,hf,k1,k2,go_sem]
  repeat' first|((first|refine cA (dA _) ?_ ?_|refine cA (dB _) ?_ ?_|refine cA (hG _) ?_ ?_|refine cA (cP _) ?_ ?_|refine cG (λe=>cM _) ?_ ?_);exact flk;simp (disch:=omega) only[k7,k4,go_sem])|exact wa|with_reducible apply aiA|exact clz|fail
 ·rw[hR];refine acO jg ?_;simp (disch:=omega) only[kc,tkC,hf,k1,k2,go_sem]
  repeat' first|((first|refine cA (dA _) ?_ ?_|refine cA (dB _) ?_ ?_);exact flk;simp (disch:=omega) only[go_sem])|exact wa|fail
theorem qBc(s:Str)(h:wh)(hs:s.length<=1000000000):ACalls Tryz.prog 137 [.str s] h (.bool (qqm s)) h:=by
 unfold qqm;have c1:=λh=>t53 s h hs
 by_cases g:1<=s.length
 ·rw[qqz s g];have k0:((0:Int)<s.length)=True:=wj;have k2:((s.length:Int)-1).toNat=s.length-1:=by omega
  have k3:(0<=(s.length:Int)-1)=True:=wj;have k4:((s.length:Int)-1<=s.length)=True:=wj;have k5:((s.length:Int)-1<s.length)=True:=wj;obtain⟨b,hb⟩:=wg ((s[s.length-1]?).getD 0)
  have eb:=hb.symm;rw[eb];have c2:=λh=>t53 (s.take (s.length-1)) h (by simp;omega)
  by_cases g2:b.toNat=42
  ·have k6:((b.toNat:Int)=42)=True:=wj;rw[ipo (by simpa using g2)]
   by_cases g3:s.length<=16
   ·have k7:((s.length:Int)<=16)=True:=wj;rw[dqt g3];refine acO qgI ?_;simp (disch:=omega) only[qjY,k0,k2,k3,k4,k5,eb,k6,k7,go_sem]
    repeat' first|(refine cG (λe=>c2 _) flk ?_;simp (disch:=omega) only[go_sem])|exact wc|with_reducible apply aiA|exact clz|fail
   ·have k7:((s.length:Int)<=16)=False:=wl;rw[dqf g3];refine acO qgI ?_;simp (disch:=omega) only[qjY,k0,k2,k3,k4,k5,eb,k6,k7,go_sem]
    repeat' first|(refine qj ( .bool false) ?_;simp (disch:=omega) only[go_sem])|exact wc|fail
  ·have k6:((b.toNat:Int)=42)=False:=wl;rw[ine (by simpa using g2)];refine acO qgI ?_;simp (disch:=omega) only[qjY,k0,k2,k3,k4,k5,eb,k6,go_sem]
   repeat' first|(refine cA (c1 _) flk ?_;simp (disch:=omega) only[go_sem])|exact wc|fail
 ·have e:s= []:=List.eq_nil_of_length_eq_zero om;subst e;rw[ine (by decide)];refine acO qgI ?_;simp (disch:=omega) only[qjY,go_sem]
  repeat' first|((first|refine cA (c1 _) ?_ ?_|refine cG (λe=>c1 _) ?_ ?_);exact flk;simp (disch:=omega) only[go_sem])|exact wc|(with_reducible first|intro _|apply aiA)|exact clz|fail
theorem hdR(x:Co)(h:wh)(hz:qbd x)(hp:cb SG h):ACalls Tryz.prog 60 [.str x.sec,strs x.sig,qn x.tok] h (.int .i64 (srE x)) h:=by
 obtain⟨R,hR⟩:=wg (srE x)
 rw[<-hR];unfold srE at hR;have z1:=hz.sg;have z2:=hz.tk;have cN:=λh=>t53 x.sec h hz.sc
 cases g0:f6 x.sec with
 |false=>
  rw[g0]at cN;rw[ipo g0]at hR;rw[hR];refine acO qo1 ?_;simp (disch:=omega) only[qxA,strs,qn,go_sem]
  repeat' first|(refine cA (cN _) flk ?_;simp (disch:=omega) only[go_sem])|exact wc|fail
 |true=>
 rw[g0]at cN;rw[ine (by rw[g0];simp)]at hR
 by_cases g1:x.sig.length=0
 ·have k1:((x.sig.length:Int)=0)=True:=wj;rw[ipo g1]at hR;rw[hR];refine acO qo1 ?_;simp (disch:=omega) only[qxA,strs,qn,go_sem]
  repeat' first|(refine cA (cN _) flk ?_;simp (disch:=omega) only[k1,go_sem])|exact wc|fail
 have k1:((x.sig.length:Int)=0)=False:=wl;rw[ine g1]at hR
 by_cases g2:32<x.sig.length
 ·have k2:((32:Int)<x.sig.length)=True:=wj;rw[ipo g2]at hR;rw[hR];refine acO qo1 ?_;simp (disch:=omega) only[qxA,strs,qn,go_sem]
  repeat' first|(refine cA (cN _) flk ?_;simp (disch:=omega) only[k1,k2,go_sem])|exact wc|fail
 have k2:((32:Int)<x.sig.length)=False:=wl;rw[ine g2]at hR;refine acO qo1 ?_;simp (disch:=omega) only[qxA,strs,qn,go_sem]
 repeat' first|(refine cA (cN _) flk ?_;simp (disch:=omega) only[k1,k2,go_sem])
 refine qk (T:=λi:Nat=>qP 81 [(1,strs x.sig),(2,qn x.tok),(7,.int .i64 i)]) (H:=λ_=>h) (inv:=λi=>i<=x.sig.length∧ ∀j,j<i->kf x.sig j=0) (m:=λi=>x.sig.length-i) 0 ⟨nzl _,λj hj=>by omega⟩ (Wk.temps ?_) ?_
 ·(simp only[strs,qn,go_sem,qf,qc,qa,qe];try exact we)
 rintro i ⟨i1,i2⟩ K hK
 by_cases hi:i<x.sig.length
 ·have k3:((i:Int)<x.sig.length)=True:=wj;have hE:=Ux (f:=kf x.sig) hi i2;have hs:kf x.sig i=if qqm (x.sig.getD i [])=false then 14 else if jC (λj=>decide (x.sig.getD i []=x.sig.getD j [])) i=true then 7 else 0:=rfl
  have c87:=λh=>qBc (x.sig.getD i []) h (hz.ss i)
  obtain⟨s,hsx⟩:=wg (x.sig.getD i [])
  have es:=hsx.symm;rw[es]at hs c87;cases g3:qqm s with
  |false=>
   rw[g3]at c87;rw[ipo g3]at hs;have hne:qah (kf x.sig) 0 x.sig.length≠0:=by rw[hE (by rw[hs];decide),hs];decide
   have hV:R=14:=by rw[hR,ipo hne,hE (by rw[hs];decide),hs]
   rw[hV];simp (disch:=omega) only[strs,qn,k3,es,go_sem]
   repeat' first|(refine cA (c87 _) flk ?_;simp (disch:=omega) only[go_sem])|exact wc|with_reducible apply aiA|exact clz|fail
  |true=>
  rw[g3]at c87;rw[ine (by rw[g3];simp)]at hs;simp (disch:=omega) only[strs,qn,k3,es,go_sem]
  repeat' first|(refine cA (c87 _) flk ?_;simp (disch:=omega) only[go_sem])|with_reducible apply aiA|exact clz|fail
  refine qk (T:=λk:Nat=>qP 81 [(1,strs x.sig),(2,qn x.tok),(7,.int .i64 i),(8,.int .i64 k)]) (H:=λ_=>h) (inv:=λk=>k<=i∧ ∀j,j<k-> ¬s=x.sig.getD j []) (m:=λk=>i-k) 0 ⟨nzl _,λj hj=>by omega⟩ (Wk.temps ?_) ?_
  ·(simp only[strs,qn,go_sem,qf,qc,qa,qe];try exact we)
  rintro k ⟨u1,u2⟩ K2 hK2
  by_cases hk:k<i
  ·have t1:((k:Int)<i)=True:=wj;have t2:((k:Int)<x.sig.length)=True:=wj;obtain⟨y,hy⟩:=wg (x.sig.getD k [])
   have ey:=hy.symm
   by_cases g4:y=s
   ·have k4:(y=s)=True:=eqt g4;rw[ipo (qN.2 ⟨k,hk,by rw[ey,g4];simp⟩)]at hs;have hne:qah (kf x.sig) 0 x.sig.length≠0:=by rw[hE (by rw[hs];decide),hs];decide
    have hV:R=7:=by rw[hR,ipo hne,hE (by rw[hs];decide),hs]
    rw[hV];simp (disch:=omega) only[strs,qn,k3,t1,t2,k4,es,ey,go_sem]
    repeat' first|exact wc|with_reducible apply aiA|exact clz|fail
   ·have k4:(y=s)=False:=eqf g4;simp (disch:=omega) only[strs,qn,k3,t1,t2,k4,es,ey,go_sem]
    repeat' first|with_reducible apply aiA|exact clz|fail
    refine hK2 _ _ (k+1) ⟨hk,λj hj=> ?_⟩ om (Wk.temps ?_)
    ·by_cases e:j=k
     ·subst e;rw[ey];exact λe=>g4 e.symm
     ·exact u2 j om
    ·(simp only[strs,qn,go_sem,qf,qc,qa,qe];try exact we)
  ·have t1:((k:Int)<i)=False:=wl;obtain rfl:k=i:=by omega
   rw[ine (by rw[qp.2 λj hj=>dqf (u2 j hj)];simp)]at hs;simp (disch:=omega) only[strs,qn,t1,go_sem];refine hK _ _ (k+1) ⟨hi,λj hj=> ?_⟩ om (Wk.temps ?_)
   ·by_cases e:j=k
    ·subst e;exact hs
    ·exact i2 j om
   ·(simp only[strs,qn,go_sem,qf,qc,qa,qe];try exact we)
 have k3:((i:Int)<x.sig.length)=False:=wl;have hn0:=jO (f:=kf x.sig) (λj (hj:j<x.sig.length)=>i2 j om);rw[ine (λhc=>hc hn0)]at hR
 by_cases g5:x.tok.length=x.sig.length
 case neg=>
  have k5:((x.tok.length:Int)=x.sig.length)=False:=wl;rw[ipo g5]at hR;rw[hR];simp (disch:=omega) only[strs,qn,k3,k5,go_sem]
  repeat' first|exact wc|fail
 have k5:((x.tok.length:Int)=x.sig.length)=True:=wj;rw[ine (λhc=>hc g5)]at hR;clear hK;simp (disch:=omega) only[strs,qn,k3,k5,go_sem];obtain⟨rw0,hrw⟩: ∃f:Nat->Int,f=λi=>qd4 (x.tok.getD i []):=⟨_,rfl⟩
 have er: ∀i,rw0 i=qd4 (x.tok.getD i []):=λi=>by rw[hrw]
 rw[<-hrw]at hR;refine qk (T:=λi:Nat=>qP 81 [(2,qn x.tok),(9,.int .i64 i)]) (H:=λ_=>h) (inv:=λi=>i<=x.tok.length∧ ∀j,j<i->rw0 j=0) (m:=λi=>x.tok.length-i) 0 ⟨nzl _,λj hj=>by omega⟩ (Wk.temps ?_) ?_
 ·(simp only[qn,go_sem,qf,qc,qa,qe];try exact we)
 rintro i ⟨i1,i2⟩ K hK
 by_cases hi:i<x.tok.length
 ·have k6:((i:Int)<x.tok.length)=True:=wj;have hE:=Ux (f:=rw0) hi i2;have hs:=er i;have zl:=hz.tl i;have zt:=hz.te i;obtain⟨l,hl⟩:=wg (x.tok.getD i [])
  have el:=hl.symm;rw[el]at hs zl;simp only[el]at zt;unfold qd4 at hs
  by_cases g6:1024<l.length
  ·have k7:((1024:Int)<l.length)=True:=wj;rw[ipo g6]at hs;have hV:R=4:=by rw[hR,hE (by rw[hs];decide),hs]
   rw[hV];simp (disch:=omega) only[qn,zy,k6,k7,el,go_sem]
   repeat' first|exact wc|with_reducible apply aiA|exact clz|fail
  have k7:((1024:Int)<l.length)=False:=wl;rw[ine g6]at hs;simp (disch:=omega) only[qn,zy,k6,k7,el,go_sem]
  repeat' first|with_reducible apply aiA|exact clz|fail
  refine qk (T:=λk:Nat=>qP 81 [(2,qn x.tok),(9,.int .i64 i),(10,.int .i64 k)]) (H:=λ_=>h) (inv:=λk=>k<=l.length∧ ∀j,j<k->tkE (l.getD j default)=0) (m:=λk=>l.length-k) 0 ⟨nzl _,λj hj=>by omega⟩ (Wk.temps ?_) ?_
  ·(simp only[qn,zy,go_sem,qf,qc,qa,qe];try exact we)
  rintro k ⟨u1,u2⟩ K2 hK2
  by_cases hk:k<l.length
  ·have t1:((k:Int)<l.length)=True:=wj;have cT:=tkR (l.getD k default) h (zt k) hp;obtain⟨t,ht⟩:=wg (l.getD k default)
   have et:=ht.symm;rw[et]at cT;obtain⟨e,he⟩:=wg (tkE t)
   rw[<-he]at cT;unfold tkC at cT
   by_cases g7:e=0
   ·have k8:(e=0)=True:=eqt g7;simp (disch:=omega) only[qn,zy,tkC,k6,t1,el,et,go_sem]
    repeat' first|(refine cA (cT) flk ?_;simp (disch:=omega) only[k8,go_sem])|with_reducible apply aiA|exact clz|fail
    refine hK2 _ _ (k+1) ⟨hk,λj hj=> ?_⟩ om (Wk.temps ?_)
    ·by_cases e:j=k
     ·subst e;rw[et,<-he];exact g7
     ·exact u2 j om
    ·(simp only[qn,zy,go_sem,qf,qc,qa,qe];try exact we)
   ·have k8:(e=0)=False:=eqf g7;rw[ipo (qN.2 ⟨k,hk,by rw[et,<-he];simp[g7]⟩)]at hs;have hV:R=1:=by rw[hR,hE (by rw[hs];decide),hs]
    rw[hV];simp (disch:=omega) only[qn,zy,tkC,k6,t1,el,et,go_sem]
    repeat' first|(refine cA (cT) flk ?_;simp (disch:=omega) only[k8,go_sem])|exact wc|with_reducible apply aiA|exact clz|fail
  ·have t1:((k:Int)<l.length)=False:=wl;rw[ine (by rw[qp.2 λj (hj:j<l.length)=>by rw[u2 j om];simp];simp)]at hs;simp (disch:=omega) only[qn,zy,k6,t1,el,go_sem]
   repeat' first|with_reducible apply aiA|exact clz|fail
   refine hK _ _ (i+1) ⟨hi,λj hj=> ?_⟩ om (Wk.temps ?_)
   ·by_cases e:j=i
    ·subst e;exact hs
    ·exact i2 j om
   ·(simp only[qn,zy,go_sem,qf,qc,qa,qe];try exact we)
 ·have k6:((i:Int)<x.tok.length)=False:=wl;rw[jO (λj (hj:j<x.tok.length)=>i2 j om)]at hR;rw[hR];simp (disch:=omega) only[qn,k6,go_sem]
  repeat' first|exact wc|fail
theorem coR(x:Co)(h:wh)(hz:qbd x)(hp:cb SG h):ACalls Tryz.prog 10 [.agg (coC x)] h (.int .i64 (coE x)) h:=by
 have c1:=λl=>hdR x (h++l) hz (hp.app l)
 unfold coE
 by_cases g:srE x=0
 case neg=>
  have k1:(srE x=0)=False:=eqf g;rw[ipo g];obtain⟨e,he⟩:=wg (srE x)
  rw[<-he]at c1 k1 ⊢;refine acO qx3 ?_;simp (disch:=omega) only[qCx,coC,go_sem]
  repeat' first|(refine cA (c1 _) flk ?_;simp (disch:=omega) only[k1,go_sem])|exact wa|fail
 rw[ine (λhc=>hc g)];obtain⟨o1,o2,o3,o4⟩:=qrZ g;rw[g]at c1;have zg1: ∀g,valL g .len [strs x.sig]= .int .i64 x.tok.length:=λ_=>by rw[o3];rfl
 have zg2: ∀g,okL g .len [strs x.sig]=True:=λ_=>eqt trivial
 have hn:=hz.tk;have hc:=hz.cl;have hl:=hz.tl;have hm:=hz.ce;obtain⟨R,hR⟩:=wg (if alB x.tok x.col=false then (19:Int) else 0)
 rw[<-hR];have k0:(0<=(x.tok.length:Int))=True:=wj;have k1:((x.tok.length:Int)<=9223372036854775807)=True:=wj;have eS:=o3.symm;refine acO qx3 ?_;simp (disch:=omega) only[qCx,coC,go_sem]
 repeat' first|(refine cA (c1 _) flk ?_;simp (disch:=omega) only[k0,zg1,zg2,go_sem])|with_reducible apply aiA|exact clz|fail
 all_goals try rw[itn]
 rw[qld];obtain⟨tok,htok⟩:=wg x.tok
 obtain⟨col,hcol⟩:=wg x.col
 have eS2:x.sig.length=tok.length:=by rw[htok];exact eS
 rw[<-htok,<-hcol]at hR;rw[<-htok]at k0 k1 hn;simp only[<-htok]at hl o4;rw[<-hcol]at hc;simp only[<-hcol]at hm;have eC:coC x= [.str x.sec,strs x.sig,qn tok,qv col]:=by rw[htok,hcol];rfl
 have zc:qv col= .sl col.length λi=> [qx (col.getD i [])]:=rfl
 have zt:qn tok= .sl tok.length λi=> [zy (tok.getD i [])]:=rfl
 try simp only[<-htok,<-hcol]
 rw[<-qvZ (col:=col)];refine qk (T:=λi:Nat=>qP 99 [(1,.op h.length 1 0),(4,.osl (h.length+1) 1 1 0 tok.length),(5,.int .i64 i)])
  (H:=λi=>h++ [.mem 1 26 [.str x.sec,strs x.sig,qn tok,qv col],.mem 1 3 (gC (atA col i 0) tok.length)])
  (inv:=λi=>i<=col.length∧ ∀j,j<i->qey tok col j=true) (m:=λi=>col.length-i) 0 ⟨nzl _,λj hj=>absurd hj (nnz j)⟩ (Wk.temps ?_) ?_
 ·(simp only[strs,zt,zc,go_sem,qf,qc,qa,qe];try exact we)
 rintro i ⟨i1,i2⟩ K hK
 by_cases hi:i<col.length
 ·have k2:((i:Int)<col.length)=True:=wj;have ki:(0<=(i:Int))=True:=wj;have hno:qey tok col i=false->R=19:=λhx=>by rw[hR,qvS hi hx,ipo rfl]
  have hlen:= @qkx tok col i;have hen:= @qrf tok col i;have heq:= @qrg tok col i;have hskip:= @qgu col i;have hstep:= @qgv col i;have hmi:=hm i;have hE: ∀s,enB tok col i s=(decide ((col.getD i []).getD s 0= -1)||(decide ((col.getD i []).getD s 0=(cnC col s i:Int))&&decide ((col.getD i []).getD s 0<((tok.getD s []).length:Int)))):=λ_=>rfl
  obtain⟨c,hcx⟩:=wg (col.getD i [])
  have ec:=hcx.symm;rw[ec]at hlen heq hmi;simp only[ec]at hskip hstep hE
  by_cases g1:c.length=tok.length
  case neg=>
   have k3:((c.length:Int)=tok.length)=False:=wl;rw[hno (hlen g1)];simp (disch:=omega) only[zc,qx,k2,ki,k3,ec,go_sem]
   repeat' first|exact wa|with_reducible apply aiA|exact clz|fail
  have k3:((c.length:Int)=tok.length)=True:=wj;have heq:=heq g1;simp (disch:=omega) only[zc,qx,k2,ki,k3,ec,go_sem]
  repeat' first|with_reducible apply aiA|exact clz|fail
  refine qk (T:=λs:Nat=>qP 99 [(1,.op h.length 1 0),(4,.osl (h.length+1) 1 1 0 tok.length),(5,.int .i64 i),(6,qx c),(7,.bool (jC (λs=> !decide (c.getD s 0= -1)) s)),(8,.int .i64 s)])
   (H:=λs=>h++ [.mem 1 26 [.str x.sec,strs x.sig,qn tok,qv col],.mem 1 3 (gC (atA col i s) tok.length)])
   (inv:=λs=>s<=c.length∧ ∀j,j<s->enB tok col i j=true) (m:=λs=>c.length-s) 0 ⟨nzl _,λj hj=>absurd hj (nnz j)⟩ (Wk.temps ?_) ?_
  ·(simp only[qx,go_sem,qf,qc,qa,qe];try exact we)
  rintro s ⟨s1,s2⟩ K2 hK2
  by_cases hs:s<c.length
  ·have t1:((s:Int)<c.length)=True:=wj;have t0:(0<=(s:Int))=True:=wj;have hsn:s<tok.length:=by omega
   have t2:((s:Int)<tok.length)=True:=wj;have t3:(s<tok.length)=True:=eqt hsn;have t4:(s+1<=tok.length)=True:=eqt hsn;have gl:=fb (atA col i s) tok.length;have gg:=qaL (g:=atA col i s) hsn;rw[qq8]at gg;have hsk:=hskip (s:=s) (n:=tok.length);have hst:=hstep (s:=s) hsn;have hcn:= @qre col s i;have hlt:=hl s;have hEs:=hE s;have hap:=qcg (λs=> !decide (c.getD s 0= -1)) s;obtain⟨t,ht⟩:=wg (c.getD s 0)
   obtain⟨l,hlx⟩:=wg (tok.getD s [])
   have et:=ht.symm;have el:=hlx.symm;rw[et]at hsk hst hEs;rw[el]at hEs hlt;simp only[et]at hap;obtain⟨a,ha⟩:=wg (jC (λs=> !decide (c.getD s 0= -1)) s)
   have ea:=ha.symm;rw[ea]at hap;obtain⟨q,hq⟩: ∃q:Nat,q=cnC col s i:=⟨_,rfl⟩
   have eq:=hq.symm;rw[eq]at hst hEs hcn gg;have b2:((q:Int)+1<=9223372036854775807)=True:=wj;have b3:(-9223372036854775808<=(q:Int)+1)=True:=wj
   by_cases g2:t= -1
   ·have k4:(t= -1)=True:=eqt g2;rw[dqt g2,Bool.true_or]at hEs;have hap':jC (λs=> !decide (c.getD s 0= -1)) (s+1)=a:=by rw[hap,dqt g2];simp
    simp (disch:=omega) only[qx,t0,t1,t2,t3,k4,et,ea,gl,gg,Nat.mul_one,Nat.zero_add,go_sem]
    repeat' first|with_reducible apply aiA|exact clz|fail
    rw[hsk g2];refine hK2 _ _ (s+1) ⟨hs,λj hj=> ?_⟩ om (Wk.temps ?_)
    ·by_cases e:j=s
     ·subst e;exact hEs
     ·exact s2 j om
    ·rw[hap']
     (simp only[qx,go_sem,qf,qc,qa,qe];try exact we)
   have k4:(t= -1)=False:=eqf g2;rw[dqf g2,Bool.false_or]at hEs;have hap':jC (λs=> !decide (c.getD s 0= -1)) (s+1)=true:=by rw[hap,dqf g2];simp
   by_cases g3:t=(q:Int)
   case neg=>
    have k5:(t=(q:Int))=False:=eqf g3;rw[dqf g3,Bool.false_and]at hEs;rw[hno (hen hsn hEs)];simp (disch:=omega) only[zt,qx,t0,t1,t2,t3,t4,k4,k5,et,ea,gl,gg,Nat.mul_one,Nat.zero_add,go_sem]
    repeat' first|exact wa|with_reducible apply aiA|exact clz|fail
   have k5:(t=(q:Int))=True:=eqt g3;rw[dqt g3,Bool.true_and]at hEs
   by_cases g4:(l.length:Int)<=t
   ·have k6:((l.length:Int)<=t)=True:=eqt g4;rw[dqf om]at hEs;rw[hno (hen hsn hEs)];simp (disch:=omega) only[zt,zy,qx,t0,t1,t2,t3,t4,k4,k5,k6,et,ea,el,gl,gg,Nat.mul_one,Nat.zero_add,go_sem]
    repeat' first|exact wa|with_reducible apply aiA|exact clz|fail
   ·have k6:((l.length:Int)<=t)=False:=eqf g4;rw[dqt om]at hEs;have hst:=hst g2;simp (disch:=omega) only[zt,zy,qx,t0,t1,t2,t3,t4,k4,k5,k6,et,ea,el,gl,gg,hst,Nat.mul_one,Nat.zero_add,Option.isSome_some,go_sem]
    repeat' first|with_reducible apply aiA|exact clz|fail
    try rw[hst]
    refine hK2 _ _ (s+1) ⟨hs,λj hj=> ?_⟩ om (Wk.temps ?_)
    ·by_cases e:j=s
     ·subst e;exact hEs
     ·exact s2 j om
    ·rw[hap']
     (simp only[qx,go_sem,qf,qc,qa,qe];try exact we)
  ·have t1:((s:Int)<c.length)=False:=wl;have es:s=tok.length:=by omega
   have heq:=heq λj hj=>s2 j om
   rw[<-es]at heq;cases ga:jC (λs=> !decide (c.getD s 0= -1)) s with
   |false=>
    rw[ga]at heq;rw[hno heq];simp (disch:=omega) only[qx,t1,go_sem]
    repeat' first|exact wa|fail
   |true=>
    rw[ga]at heq;simp (disch:=omega) only[qx,t1,go_sem];have ege:gC (atA col i s) tok.length=gC (atA col (i+1) 0) tok.length:=by rw[es];exact qi7 _
    rw[ege];refine hK _ _ (i+1) ⟨hi,λj hj=> ?_⟩ om (Wk.temps ?_)
    ·by_cases e:j=i
     ·subst e;exact heq
     ·exact i2 j om
    ·(simp only[go_sem,qf,qc,qa,qe];try exact we)
 have k2:((i:Int)<col.length)=False:=wl;obtain rfl:i=col.length:=by omega
 clear hK;simp (disch:=omega) only[zc,k2,go_sem]
 repeat' first|with_reducible apply aiA|exact clz|fail
 refine qk (T:=λs:Nat=>qP 99 [(1,.op h.length 1 0),(4,.osl (h.length+1) 1 1 0 tok.length),(9,.int .i64 s)])
  (H:=λ_=>h++ [.mem 1 26 [.str x.sec,strs x.sig,qn tok,qv col],.mem 1 3 (gC (atA col col.length 0) tok.length)])
  (inv:=λs=>s<=tok.length∧ ∀j,j<s->cnC col j col.length=(tok.getD j []).length) (m:=λs=>tok.length-s) 0 ⟨nzl _,λj hj=>absurd hj (nnz j)⟩ (Wk.temps ?_) ?_
 ·(simp only[go_sem,qf,qc,qa,qe];try exact we)
 rintro s ⟨s1,s2⟩ K hK
 by_cases hs:s<tok.length
 ·have t1:((s:Int)<tok.length)=True:=wj;have t0:(0<=(s:Int))=True:=wj;have t3:(s<tok.length)=True:=eqt hs;have t4:(s+1<=tok.length)=True:=eqt hs;have gl:=fb (atA col col.length 0) tok.length;have gg:=qaL (g:=atA col col.length 0) hs;have e0:atA col col.length 0 s= .int .i64 (cnC col s col.length:Int):=by unfold atA;rw[ine (nnz _)]
  rw[e0]at gg;have hno:= @qq4 tok col s hs;obtain⟨q,hq⟩: ∃q:Nat,q=cnC col s col.length:=⟨_,rfl⟩
  have eq:=hq.symm;have hs2:q=(tok.getD s []).length->cnC col s col.length=(tok.getD s []).length:=λe=>by rw[<-hq];exact e
  rw[eq]at gg hno;obtain⟨l,hlx⟩:=wg (tok.getD s [])
  have el:=hlx.symm;rw[el]at hno hs2
  by_cases g:q=l.length
  ·have k5:((q:Int)=l.length)=True:=wj;simp (disch:=omega) only[zt,zy,t0,t1,t3,k5,el,gl,gg,Nat.mul_one,Nat.zero_add,go_sem]
   repeat' first|with_reducible apply aiA|exact clz|fail
   refine hK _ _ (s+1) ⟨hs,λj hj=> ?_⟩ om (Wk.temps ?_)
   ·by_cases e:j=s
    ·subst e;rw[el];exact hs2 g
    ·exact s2 j om
   ·(simp only[go_sem,qf,qc,qa,qe];try exact we)
  ·have k5:((q:Int)=l.length)=False:=wl;rw[hR,hno g,ipo rfl];simp (disch:=omega) only[zt,zy,t0,t1,t3,k5,el,gl,gg,Nat.mul_one,Nat.zero_add,go_sem]
   repeat' first|exact wa|with_reducible apply aiA|exact clz|fail
 ·have t1:((s:Int)<tok.length)=False:=wl;rw[hR,qq5 i2 (λj hj=>s2 j om),ine (by simp)];simp (disch:=omega) only[t1,go_sem]
  repeat' first|exact wa|fail
end RC
end
section
open Go Go.Proofs AF
def qpf:List Nat:= []
def qCI:C:=
 (vU [MC 4 (.bool false)] ((vU [MV 6 0,O1 7 .len 6,MV 8 1,O1 9 .len 8,BI 10 .neq 7 9] (vV 10 (vX [MC 4 (.bool false)]))).seq ((vU [vO 5 0] (C.block 0 ((v6 11 5 0 0).seq ((C.block
 1 (vU [MV 17 0,MV 18 5,O2 19 (.idxA 1) 17 18,LD 20 19,MV 21 1,MV 22 5,O2 23 (.idxA 1) 21 22,LD 24 23,BI 25 .neq 20 24] (vV 25 (vX [MC 4 (.bool false)])))).seq (vZ 15
 5))).loop)).seq (vX [MC 4 (.bool true)]))))
theorem qzP:qG Tryz.prog 99 26 0 [RV.tmp 4] qCI:=fi Tryz.f99 [] qpf []
end
