import Derived.Test.YtiiegfkjmnoijaaGreatDoorK14
import Derived.Test.YtiiegfkjmnoijaaGreatDoorK11
import Derived.Test.YtiiegfkjmnoijaaGreatDoorK3
import Derived.Test.YtiiegfkjmnoijaaGreatDoorK5
import Derived.Test.YtiiegfkjmnoijaaGreatDoorK8
import Derived.Test.YtiiegfkjmnoijaaGreatDoorProg
import Derived.Test.YtiiegfkjmnoijaaGreatDoorK12
import Derived.Test.YtiiegfkjmnoijaaGreatDoorK9
set_option linter.all false
set_option maxHeartbeats 128000000
set_option maxRecDepth 100000
section
open Go Go.Proofs AF HY LN
namespace RC
theorem WA(x:Co)(l:List Un)(h:w6)(hz:yx x)(hu:bo l)(hp:kt SG h):ACalls Tryz.prog 75 [.agg (coC x),zf l] h (.int .i64 (vaE x l)) h:=by
 have c1:=λl'=>coP x (h++l') hz (hp.app l')
 have c2:=λl'=>vaP x l (h++l') hz hu (hp.app l')
 have hE:vaE x l=(if coE x≠0 then 1 else if rgB x l=false then 20 else 0):=rfl
 by_cases g:coE x=0
 case neg=>
  have k1:(coE x=0)=False:=eqf g;rw[ipo g]at hE;rw[hE];unfold coC at c1;refine acO Xh ?_;simp (disch:=omega) only[Le,coC,go_sem]
  repeat' first|(refine cA (c1 _) flk ?_;simp (disch:=omega) only[k1,go_sem])|exact wj|fail
 rw[ine (by simpa using g)]at hE;simp only[g]at c1
 by_cases g2:rgB x l=false
 ·rw[ipo g2]at hE;rw[hE];simp only[hE]at c2;unfold coC at c1 c2;refine acO Xh ?_;simp (disch:=omega) only[Le,coC,go_sem]
  repeat' first|((first|refine cA (c1 _) ?_ ?_|refine cA (c2 _) ?_ ?_);exact flk;simp (disch:=omega) only[go_sem])|(apply qb;exact rvk;simp only[go_sem];first|exact qi|apply qe)|(with_reducible first|intro _|apply aiA)|exact clz|fail
 ·rw[ine g2]at hE;rw[hE];simp only[hE]at c2;unfold coC at c1 c2;refine acO Xh ?_;simp (disch:=omega) only[Le,coC,go_sem]
  repeat' first|((first|refine cA (c1 _) ?_ ?_|refine cA (c2 _) ?_ ?_);exact flk;simp (disch:=omega) only[go_sem])|exact wj|fail
theorem Ry{x:Co}{l:List Un}(h:vaE x l=0):coE x=0:=by
 unfold vaE at h;split at h
 ·cases h
 ·rename_i g;exact Classical.not_not.1 g
theorem qbB(x:Co)(l:List Un)(o:Dc)(h:w6)(hz:yx x)(hu:bo l)(hp:kt SG h)(hg:z7 h frmN frmC)(ht:o.txt.length<=1000):ACalls Tryz.prog 20 [.agg (coC x),zf l,.agg (dcC o)] h (.tup [.int .i64 (Gw x l o),.int .i64 (Vd x l o)]) h:=by
 have c1:=λl'=>WA x l (h++l') hz hu (hp.app l')
 by_cases g:vaE x l=0
 case neg=>
  have k1:(vaE x l=0)=False:=eqf g;have hE:Vd x l o=vaE x l:=by unfold Vd;rw[ipo g]
  unfold Gw;rw[hE,ine g];unfold coC at c1;refine acO Nh ?_;simp (disch:=omega) only[qbP,coC,go_sem]
  repeat' first|(refine cA (c1 _) flk ?_;simp (disch:=omega) only[k1,go_sem])|exact wj|fail
 have hE:Vd x l o=yb x l o:=by unfold Vd;rw[ine (by simpa using g)]
 unfold Gw;rw[hE];have c2:=λl'=>dpP x l o (h++l') hz hu (hp.app l') hg.app (Ry g) ht
 simp only[g]at c1;unfold dpN at c2;unfold coC at c1 c2;unfold dcC at c2;refine acO Nh ?_;simp (disch:=omega) only[qbP,coC,dcC,go_sem]
 repeat' first|((first|refine cA (c1 _) ?_ ?_|refine cA (c2 _) ?_ ?_);exact flk;simp (disch:=omega) only[go_sem])|exact wj|with_reducible apply aiA|exact clz|fail
def plG(x:Co)(l:List Un)(d:List Dc)(n:Nat):List Int:=(d.take n).map (jN x l)
def Pj(x:Co)(l:List Un)(d:List Dc):List Int:=if az x l d=0 then plG x l d d.length else []
theorem qdl(x:Co)(l:List Un)(d:List Dc)(h:w6)(hz:yx x)(hu:bo l)(hp:kt SG h)(hg:z7 h frmN frmC)(h1:coE x=0)(hd:d.length<=1000000)(ht: ∀o∈d,o.txt.length<=1000):ACalls Tryz.prog 78 [.agg (coC x),zf l,jG d] h (.tup [qz (Pj x l d),.int .i64 (az x l d)]) h:=by
 unfold Pj
 by_cases g:256<d.length
 ·have k1:((256:Int)<d.length)=True:=xv;have hE:az x l d=4:=by unfold az;rw[ipo g]
  rw[hE,ine (by decide)];refine acO Ob ?_;simp (disch:=omega) only[qbX,coC,jG,k1,go_sem]
  repeat' first|(apply qb;exact rvk;simp only[go_sem])
  exact VLe.tup ⟨qY,qi,trivial⟩
 have k1:((256:Int)<d.length)=False:=xD;have hE:az x l d=xM (λi=>yb x l (d.getD i default)) 0 d.length:=by unfold az;rw[ine g]
 rw[hE];refine acO Ob ?_;simp (disch:=omega) only[qbX,coC,jG,k1,go_sem];refine qp (T:=λs:Nat×Nat×AObj×AObj×AObj=>zw 38 [(1,zf l),(3,.op h.length 1 0),(16,jG d),(17,.int .i64 d.length),(18,.int .i64 s.1),(8,.osl (h.length+2) s.2.1 1 0 s.1)])
  (H:=λs=>h++ [.mem 1 26 (coC x),.emp 1,zE s.2.1 3 (qT (plG x l d s.1)),s.2.2.1,s.2.2.2.1,s.2.2.2.2])
  (inv:=λs=>s.1<=d.length∧(∀j,j<s.1->yb x l (d.getD j default)=0)∧qK [s.2.2.1] 0=true∧qK [s.2.2.2.1] 0=true∧qK [s.2.2.2.2] 0=true) (m:=λs=>d.length-s.1) (0,1,.emp 0,.emp 0,.emp 0) ⟨nzl _,λj hj=>absurd hj (nnz j),rfl,rfl,rfl⟩ (Wk.temps ?_) ?_
 ·(simp only[jG,go_sem,qg,qc,qa,qf];try exact wr)
 rintro⟨i,v,O1,O2,O3⟩ ⟨i1,i0,i2,i3,i4⟩ K hK;simp only at i0 i1 i2 i3 i4 hK;have i2': ∀m,qK (O1::m) 0=true:=λ_=>i2
 have i3': ∀m,qK (O2::m) 0=true:=λ_=>i3
 have i4': ∀m,qK (O3::m) 0=true:=λ_=>i4
 have eL:(plG x l d i).length=i:=by unfold plG;rw[List.length_map,List.length_take];omega
 by_cases hi:i<d.length
 ·have k2:((i:Int)<d.length)=True:=xv;obtain⟨o,ho⟩:=wD (d.getD i default)
  have eo:=ho.symm;have hom:o∈d:=by rw[ho];exact zh hi
  have hS:plG x l d (i+1)=plG x l d i++ [jN x l o]:=by
   unfold plG;rw[List.take_add_one,zG hi,List.map_append,ho,gdqA,zG hi];rfl
  have c1:=λl'=>dpP x l o (h++l') hz hu (hp.app l') hg.app h1 (ht o hom)
  by_cases g3:yb x l o=0
  case neg=>
   have k3:(yb x l o=0)=False:=eqf g3;have hf:xM (λi=>yb x l (d.getD i default)) 0 d.length=yb x l o:=by
    rw[wu hi i0 (by rw[eo];exact g3),eo]
   rw[hf,ine g3];unfold coC dcC at c1;simp (disch:=omega) only[coC,jG,dcC,k2,eo,i2',go_sem]
   repeat' first|(refine cA (c1 _) flk ?_;simp (disch:=omega) only[k3,i3',go_sem])|(apply qb;exact rvk;simp only[go_sem])|with_reducible apply aiA|exact clz|fail
   exact VLe.tup ⟨qY,qi,trivial⟩
  unfold dpN at c1;rw[g3]at c1;simp only[if_true]at c1;obtain⟨L,hL⟩:=wD (plG x l d i)
  rw[<-hL]at hS eL ⊢;have eC:=jy L;have eTk:List.take i (qT L)=qT L:=ltl om;unfold coC dcC at c1;simp (disch:=omega) only[coC,jG,dcC,k2,eo,i2',go_sem]
  repeat' first|(refine cA (c1 _) flk ?_;simp (disch:=omega) only[i3',eC,eL,eTk,Nat.mul_one,go_sem])|with_reducible apply aiA|exact clz|fail
  rw[show qT L++ [AV.int IntKind.i64 (jN x l o)]=qT (L++ [jN x l o]) by simp[qT],<-hS];refine hK _ _ (i+1,v+1,.mem (qn (some O1)+1) 43 (dcC o),.mem (qn (some O2)+1) 3 [.int .i64 (jN x l o)],O3) ⟨hi,λj hj=> ?_,rfl,rfl,i4⟩ (by simp only;omega) ?_
  ·by_cases e:j=i
   ·rw[e,eo];exact g3
   ·exact i0 j om
  refine Wk.temps ?_
  (simp only[jG,dcC,go_sem,qg,qc,qa,qf];try exact wr)
 have k2:((i:Int)<d.length)=False:=xD;obtain rfl:i=d.length:=by omega
 have hf:xM (λi=>yb x l (d.getD i default)) 0 d.length=0:=jk i0;rw[hf,ipo rfl];simp (disch:=omega) only[k2,go_sem]
 repeat' first|(apply qb;exact rvk;simp only[go_sem])
 exact VLe.tup ⟨pF (λ_=>rfl) eL.symm,qi,trivial⟩
def pcC(p:Pc):w7:=tkC p.t++ [.int .i64 p.c]
def spX(x:Co)(s f d:Nat):List w7:=(spk x s f d).map λp=> [.agg (pcC p)]
theorem Rf(x:Co)(f t s:Nat)(h:w6):ACalls Tryz.prog 83 [.agg (coC x),.int .i64 (f:Int),.int .i64 (t:Int),.int .i64 (s:Int)] h (.fn (.func 135) [] [.ip [.int .i64 (f:Int)],.ip [.int .i64 (t:Int)],.ip (coC x),.ip [.int .i64 (s:Int)]]) h:=by
 unfold coC;refine acO qcJ ?_;simp (disch:=omega) only[qeq,go_sem]
 repeat' first|exact wj|fail
theorem Kw(x:Co)(s f d:Nat):(spX x s f d).length=(spk x s f d).length:=by unfold spX;rw[List.length_map]
theorem Gg(x:Co)(s f:Nat): ∀d e,d<=e-> ∃r,spk x s f e=spk x s f d++r:=by
 intro d e h
 induction e with
 |zero=>
  obtain rfl:d=0:=by omega
  exact⟨[],by simp⟩
 |succ e ih=>
  by_cases g:d=e+1
  ·subst g;exact⟨[],by simp⟩
  ·obtain⟨r,hr⟩:=ih om;refine⟨r++(if pcB x s (f+e)=true then [pcT x s (f+e)] else []),?_⟩
   conv=>lhs;unfold spk
   rw[hr,List.append_assoc]
theorem Re{x:Co}{s f k d:Nat}(hk:k<d)(hb:pcB x s (f+k)=true): ∃g:(spk x s f k).length<(spX x s f d).length,(spX x s f d)[(spk x s f k).length]= [.agg (pcC (pcT x s (f+k)))]∧(spk x s f (k+1)).length=(spk x s f k).length+1:=by
 have e1:spk x s f (k+1)=spk x s f k++ [pcT x s (f+k)]:=by
  conv=>lhs;unfold spk
  rw[ipo hb]
 obtain⟨r,hr⟩:=Gg x s f (k+1) d hk;refine⟨by rw[Kw,hr,e1];simp,?_,by rw[e1];simp⟩;unfold spX;simp only[List.getElem_map,hr,e1];rw[List.getElem_append_left (by simp),List.getElem_append_right (nlr _)];simp
structure SpS where
 k:Nat
 hh:w6
theorem itS(x:Co)(s f t:Nat)(hz:yx x)(ho:CoOk x)(hs:s<x.sig.length)(ht:t<=x.col.length)(ft:f<=t):tV Tryz.prog 135 [.ip [.int .i64 (f:Int)],.ip [.int .i64 (t:Int)],.ip (coC x),.ip [.int .i64 (s:Int)]] (spX x s f (t-f)):=by
 intro h ts LI S E hS hE body start hts;have hsg:=hz.sg;have hcl:=hz.cl;have htn:=ho.tn;have htl:=hz.tl s;have q5:(0<=(s:Int))=True:=xv;have q6:((s:Int)<x.tok.length)=True:=xv;refine acQ Me ?_;simp (disch:=omega) only[HV,coC,go_sem]
 repeat' first|with_reducible apply aiA|exact clz|fail
 refine qp (T:=λi:SpS=>zw 39 [(0,.yld h.length),(2,.ip [.int .i64 (t:Int)]),(3,.ip (coC x)),(4,.ip [.int .i64 (s:Int)]),(6,.int .i64 ((f+i.k:Nat):Int))]) (H:=λi=>i.hh++ [.lp .ready ts LI])
  (inv:=λi=>f+i.k<=t∧S (spk x s f i.k).length i.hh) (m:=λi=>t-f-i.k) ⟨0,h⟩ ⟨by simp only;omega,start⟩ (Wk.temps ?_) ?_
 ·(simp only[coC,go_sem,qg,qc,qa,qf];try exact wr)
 rintro⟨k,hh⟩ ⟨i1,i4⟩ K hK;simp only at i1 i4 hK;obtain⟨hlen,hlow⟩:=hS _ _ i4;have hb:(h++ [AObj.lp LS.ready ts LI]).length=(hh++ [AObj.lp LS.ready ts LI]).length:=by simp[hlen]
 by_cases hi:f+k<t
 ·have q0:(((f+k:Nat):Int)<t)=True:=xv;have q1:(0<=((f+k:Nat):Int))=True:=xv;have q2:(((f+k:Nat):Int)<x.col.length)=True:=xv;obtain⟨c,hcx⟩:=wD (x.col.getD (f+k) [])
  have ec:=hcx.symm;have hcl2:=ho.cl (f+k) om;have hce:=ho.ce (f+k) om s hs;rw[ec]at hcl2 hce;have q3:((s:Int)<c.length)=True:=xv;have hpb:pcB x s (f+k)=decide (0<=c.getD s 0):=by unfold pcB;rw[ec]
  by_cases g:0<=c.getD s 0
  ·obtain⟨N,hN⟩: ∃N:Nat,c.getD s 0=N:=⟨(c.getD s 0).toNat,om⟩
   have hNt:N<(x.tok.getD s []).length:=by
    rcases hce with e|⟨_,e⟩
    ·omega
    ·rw[hN]at e;omega
   have q4:(0<=(N:Int))=True:=xv;obtain⟨T,hT⟩:=wD (x.tok.getD s [])
   have eT:=hT.symm;rw[eT]at hNt;have q7:((N:Int)<T.length)=True:=xv;obtain⟨hdl,hxx,hln⟩:=Re (x:=x) (s:=s) (f:=f) (k:=k) (d:=t-f) om (by rw[hpb,dqt g]);have hpc:pcT x s (f+k)=⟨T.getD N default,((f+k:Nat):Int)⟩:=by
    unfold pcT;rw[ec,eT,hN,itn]
   have hb':=body _ hh [] hdl i4;rw[hxx,hpc]at hb';unfold pcC tkC at hb';simp only[lca,lna]at hb';simp (disch:=omega) only[coC,qo,qz,qm,zX,tkC,q0,q1,q2,q3,q4,q5,q6,q7,ec,hN,eT,go_sem]
   repeat' first|with_reducible apply aiA|exact clz|fail
   ·exact⟨.ready,ts,LI,kT hlen⟩
   ·refine kf.mono ?_ hb';rintro v h' ⟨hh',⟨rfl,hn',rfl⟩|⟨st,rfl,hs',rfl⟩⟩
    ·simp (disch:=omega) only[go_sem];refine hK _ _ ⟨k+1,hh'⟩ ⟨by simp only;omega,by simp only;rw[hln];exact hn'⟩ (by simp only;omega) (Wk.temps ?_)
     (simp only[coC,go_sem,qg,qc,qa,qf];try exact wr)
    ·simp (disch:=omega) only[go_sem];obtain⟨r1,r2⟩:=(hE _ _ hs').ret (L:=LI) st hts;exact jR trivial r1 r2 ⟨_,.inr ⟨st,hs',rfl⟩⟩ (qi)
  ·have q4:(0<=c.getD s 0)=False:=eqf g;have e1:spk x s f (k+1)=spk x s f k:=by
    conv=>lhs;unfold spk
    rw[hpb,dqf g,ine (by decide),lan]
   simp (disch:=omega) only[coC,qo,qz,q0,q1,q2,q3,q4,q5,ec,go_sem]
   repeat' first|with_reducible apply aiA|exact clz|fail
   refine hK _ _ ⟨k+1,hh⟩ ⟨by simp only;omega,by rw[e1];exact i4⟩ (by simp only;omega) (Wk.temps ?_)
   (simp only[coC,go_sem,qg,qc,qa,qf];try exact wr)
 ·have q0:(((f+k:Nat):Int)<t)=False:=xD;have hk:k=t-f:=by omega
  rw[hk]at i4;simp (disch:=omega) only[coC,qo,q0,go_sem]
  repeat' first|with_reducible apply aiA|exact clz|fail
  obtain⟨r1,r2⟩:=(hS _ _ i4).ret (L:=LI) .ready hts;exact jR trivial r1 r2 ⟨hh,.inl ⟨by rw[Kw];exact i4,rfl⟩⟩ (qi)
end RC
end
section
open Go Go.Proofs AF
def XB:List Nat:= []
def Ir:C:=
 (v6 [O1 2 (.box 0 126) 0,ON 4 (.nilo 1 7 120) []] (((C.wk.seq (wc [MV 6 1])).seq (C.block 0 (C.range (.t 6) [7] (wc [⟨some 5,none,.alloc 2 120 [.str [],.str [],.str [],i6 0,i6
 0,.str [],i6 0],[]⟩,ST 7 5 7]) (C.block 1 (wc [LD 8 2,O1 9 (.load (some 7)) 5,⟨some 10,none,.bslc 3 7 1 120 [.str [],.str [],.str [],i6 0,i6 0,.str [],i6 0] [(0,7)],[.t 9]⟩,O2
 11 (.app 4 7 120 88) 8 10,ST 1 2 11]))))).seq (wa [LD 12 2,MV 4 12])))
theorem M7:qN Tryz.prog 188 13 5 [RV.tmp 4] Ir:=fi Tryz.f188 [2,4,5,10,11] XB [1]
end
section
open Go Go.Proofs AF HY LN
namespace RC
def yw(L:List Pc):w7:=L.flatMap pcC
instance:Inhabited Pc:=⟨⟨default,0⟩⟩
def ij(L:List Pc):AV:= .sl L.length λi=>pcC (L.getD i default)
theorem Q4(l:List Pc):(ij l).flag=true:=rfl
theorem sZ(l:List Pc):(ij l).strip=ij l:=rfl
theorem YE{fz:Nat->Bool}{h:w6}{n:Nat}(l:List Pc):rei fz h (n+1) (ij l)=ij l:=rfl
theorem Xq{fz:Nat->Bool}{h:w6}{n:Nat}(l:List Pc):frz fz h (n+1) (ij l)=ij l:=rfl
attribute [go_sem] Q4 sZ YE Xq
theorem Z9(p:Pc):(pcC p).length=7:=rfl
theorem fS(L:List Pc):(yw L).length=L.length*7:=by
 unfold yw
 induction L with
 |nil=>rfl
 |cons a L ih=>rw[List.flatMap_cons,lap,ih,lco,Z9];omega
theorem yV(A B:List Pc):yw (A++B)=yw A++yw B:=by simp[yw]
theorem yW(a:Pc):yw [a]=pcC a:=by simp[yw]
theorem Jb(L:List Pc): ∀i,(yw L).drop (i*7)=yw (L.drop i):=by
 induction L with
 |nil=>intro i;simp[yw]
 |cons a L ih=>
  intro i;cases i with
  |zero=>simp
  |succ i=>
   rw[show yw (a::L)=pcC a++yw L from rfl,show (a::L).drop (i+1)=L.drop i from rfl,<-ih i];rw[show (i+1)*7=(pcC a).length+i*7 by rw[Z9];omega,List.drop_append,List.drop_eq_nil_of_le om,lna,Nat.add_sub_cancel_left]
theorem Yn{L:List Pc}{i:Nat}(hi:i<L.length):((yw L).drop (i*7)).take 7=pcC (L.getD i default):=by
 rw[Jb,List.drop_eq_getElem_cons hi,gdqA,zG hi];rfl
theorem Yo(L:List Pc)(n:Nat): ∀c∈yw L,ze n c=true:=by
 intro c hc;unfold yw at hc;obtain⟨x,_,hx⟩:=List.mem_flatMap.1 hc;unfold pcC tkC at hx;simp only[lca,lna,List.mem_cons,List.not_mem_nil,or_false]at hx;rcases hx with rfl|rfl|rfl|rfl|rfl|rfl|rfl<;>rfl
theorem pG{v n:Nat}{L:List Pc}{ty:TypeId}{fz:Nat->Bool}{h:w6}{d:Nat}(hn:n=L.length):VLe (mo (some (zE v ty (yw L))) v 7 0 n (rei fz h (d+1))) (ij L):=by
 subst hn;unfold zE;split
 ·rename_i e
  have:L= []:=by
   cases L with
   |nil=>rfl
   |cons a r=>exact absurd e (by simp[yw,pcC,tkC])
  subst this;rw[slOf_emp,ipo rfl];exact qY
 ·rw[slOf_mem,ipo ⟨rfl,by rw[fS];omega⟩];refine VLe.sl_eq rfl (λi hi=> ?_);simp only[Nat.zero_add];rw[Yn hi];rfl
theorem qe5(f:FuncId)(A B C D:w7)(L:List Pc)(h:w6)(hf:tV Tryz.prog f [.ip A,.ip B,.ip C,.ip D] (L.map λp=> [.agg (pcC p)]))(hL:L.length<=1000000000):ACalls Tryz.prog 188 [.nl,.fn (.func f) [] [.ip A,.ip B,.ip C,.ip D]] h (ij L) h:=by
 refine acO M7 ?_;simp (disch:=omega) only[Ir,go_sem];refine⟨_,_,Wk.ownNil (j:=h.length) (i:=0) (k:=h.length+4) (v:=1) (ty:=126) (cs:= [.nl]) (ve:=0) (sz:=7) ?m1 rfl ?m2,?_⟩
 case m1=>simp only[go_sem]
 case m2=>simp only[go_sem]
 simp (disch:=omega) only[List.set_cons_zero,go_sem];have hxl:(L.map λp=> [AV.agg (pcC p)]).length=L.length:=List.length_map ..;have hLow: ∀(i n:Nat) O1 O2,(∀n,lowO n O1)->(∀n,lowO n O2)->LowI (h++ [.mem 1 126 [.osl (h.length+4) 0 7 0 0],.emp 1,.emp 0,.emp 0,.emp 0]) (h++ [.mem 1 126 [.osl (h.length+4) i 7 0 n],.emp 1,O1,O2,zE i 120 (yw (L.take i))]):=λi n O1 O2 l1 l2=>by
  refine⟨by simp,λo ho=> ?_⟩;rcases List.mem_append.1 ho with h1|h1
  ·exact .inl (List.mem_append_left _ h1)
  ·simp only[List.mem_cons,List.not_mem_nil,or_false]at h1;have hb: ∀n,lowO n (zE i 120 (yw (L.take i))):=λn=>ju (Yo _ n)
   rcases h1 with rfl|rfl|rfl|rfl|rfl
   ·right;refine⟨λc hc=> ?_,λc hc=> ?_⟩<;>
    ·rw[List.mem_singleton]at hc;subst hc;simp[ze]
     try omega
   ·left;simp
   ·right;exact⟨l1 _,l1 _⟩
   ·right;exact⟨l2 _,l2 _⟩
   ·right;exact⟨hb _,hb _⟩
 refine zJ hf (λa ha=> ?_)
  (S:=λi hh=> ∃O1 O2,qK [O1] 0=true∧qK [O2] 0=true∧(∀n,lowO n O1)∧(∀n,lowO n O2)∧hh=h++ [.mem 1 126 [.osl (h.length+4) i 7 0 i],.emp 1,O1,O2,zE i 120 (yw (L.take i))]) (E:=λ_ _=>False) ?_ ?_ ?_ ?_ ?_ ?_ ?_
 ·obtain⟨c,_,rfl⟩:=List.mem_map.1 ha;rfl
 ·rintro i hh ⟨O1,O2,_,_,l1,l2,rfl⟩;exact hLow _ _ _ _ l1 l2
 ·intro s hh hf;exact hf.elim
 ·exact⟨.emp 0,.emp 0,rfl,rfl,λ_=>trivial,λ_=>trivial,rfl⟩
 ·simp[ze,ze.lowVs]
  try omega
 ·rintro i hh tl LI TS hi ⟨O1,O2,s1,s2,l1,l2,rfl⟩ hlen K K2 hK hN hR' hX;have hi':i<L.length:=by rw[hxl]at hi;exact hi
  rw[List.getElem_map];have s1': ∀m,qK (O1::m) 0=true:=λ_=>s1
  have s2': ∀m,qK (O2::m) 0=true:=λ_=>s2
  have hS:L.take (i+1)=L.take i++ [L.getD i default]:=by
   rw[List.take_add_one,zG hi',gdqA,zG hi'];rfl
  have eG:L[i]=L.getD i default:=by rw[gdqA,zG hi'];rfl
  rw[eG];obtain⟨p,hp⟩:=wD (L.getD i default)
  rw[<-hp]at hS ⊢;obtain⟨M,hM⟩:=wD (L.take i)
  have eM:M.length=i:=by rw[hM,List.length_take];omega
  rw[<-hM]at hS ⊢;have eC:=fS M;have eTk:List.take (i*7) (yw M)=yw M:=ltl om;simp only[kA,List.append_assoc,lca,lna];simp (disch:=omega) only[s1',pcC,tkC,go_sem];refine hK _ _ (h++ [.mem 1 126 [.osl (h.length+4) i 7 0 i],.emp 1,.mem (qn (some O1)+1) 120 (pcC p),O2,zE i 120 (yw M)]) ?_ ?_ ?_
  ·simp[pcC,tkC]
  ·simp
  ·simp only[List.append_assoc,lca,lna];simp (disch:=omega) only[s2',pcC,tkC,eC,eTk,eM,go_sem]
   repeat' first|with_reducible apply aiA|exact clz|fail
   have eA:yw M++ [AV.str p.t.text,AV.str p.t.norm,AV.str p.t.page,.int .i64 p.t.line,.int .i64 p.t.flags,.str p.t.name,.int .i64 p.c]=yw (M++ [p]):=by rw[yV,yW];rfl
   refine hN _ _ (h++ [.mem 1 126 [.osl (h.length+4) (i+1) 7 0 (i+1)],.emp 1,.mem (qn (some O1)+1) 120 (pcC p),.mem (qn (some O2)+1) 120 (pcC p),zE (i+1) 120 (yw (M++ [p]))]) ?_ ?_ ⟨_,_,rfl,rfl,?_,?_,by rw[hS]⟩
   ·rw[<-eA];simp[pcC,tkC];exact nlr _
   ·simp
   ·intro n c hc;simp[pcC,tkC]at hc;rcases hc with rfl|rfl|rfl|rfl|rfl|rfl|rfl<;>rfl
   ·intro n c hc;simp[pcC,tkC]at hc;rcases hc with rfl|rfl|rfl|rfl|rfl|rfl|rfl<;>rfl
 ·rintro hh ⟨O1,O2,s1,s2,l1,l2,rfl⟩;rw[hxl,List.take_length];simp (disch:=omega) only[go_sem]
  repeat' first|(apply qb;exact rvk;simp only[go_sem])|with_reducible apply aiA|exact clz|fail
  exact pG rfl
 ·intro e hh hf;exact hf.elim
theorem qfj(f:FuncId)(A B C D:w7)(L:List Pc)(h:w6)(hf:tV Tryz.prog f [.ip A,.ip B,.ip C,.ip D] (L.map λp=> [.agg (pcC p)]))(hL:L.length<=1000000000):ACalls Tryz.prog 137 [.fn (.func f) [] [.ip A,.ip B,.ip C,.ip D]] h (ij L) h:=by
 have c1:=λh=>qe5 f A B C D L h hf hL
 refine acO MB ?_;simp (disch:=omega) only[HZ,go_sem]
 repeat' first|(refine cA (c1 _) flk ?_;simp (disch:=omega) only[go_sem])|exact wj|fail
theorem qfJ(h:w6):ACalls Tryz.prog 84 [] h (.agg [.nilfn,.fn (.func 136) [] [],.fn (.func 138) [] [],.fn (.func 140) [] []]) h:=by
 refine acO qcK ?_;simp (disch:=omega) only[qer,go_sem]
 repeat' first|exact wj|fail
theorem qfI(x:Co)(u:Un)(o:Dc)(h:w6):ACalls Tryz.prog 140 [.agg (coC x),.agg (unC u),.agg (dcC o)] h (ij []) h:=by
 refine acO MF ?_;simp (disch:=omega) only[H6,coC,unC,dcC,go_sem]
 repeat' first|(apply qb;exact rvk;simp only[go_sem])
 exact qY
theorem qfG(x:Co)(u:Un)(o:Dc)(s f t:Nat)(h:w6)(hz:yx x)(ho:CoOk x)(hx:zM x o.sig=s)(hs:s<x.sig.length)(hf:u.frm=f)(hu:u.to=t)(ht:t<=x.col.length)(ft:f<=t):ACalls Tryz.prog 136 [.agg (coC x),.agg (unC u),.agg (dcC o)] h (ij (spk x s f (t-f))) h:=by
 have c1:=λh=>XJ x.sig.length (λj=>x.sig.getD j []) o.sig h hz.sg
 have hS:yM (λj=>decide (o.sig=x.sig.getD j [])) x.sig.length 0=zM x o.sig:=rfl;simp only[hS,hx]at c1;have c2:=λh=>Rf x f t s h
 have hcl:=hz.cl;have c3:=λh=>qfj 135 [.int .i64 (f:Int)] [.int .i64 (t:Int)] (coC x) [.int .i64 (s:Int)] (spk x s f (t-f)) h (itS x s f t hz ho hs ht ft) (Nat.le_trans (yt x s f (t-f)) om)
 unfold coC at c2 c3;refine acO MA ?_;simp (disch:=omega) only[HW,coC,unC,dcC,strs,hf,hu,go_sem]
 repeat' first|((first|refine cA (c1 _) ?_ ?_|refine cA (c2 _) ?_ ?_|refine cA (c3 _) ?_ ?_);exact flk;simp (disch:=omega) only[strs,go_sem])|exact wj|fail
 done
def cjP(L:List Tk)(f:Int):List Pc:=L.map λt=>⟨t,f⟩
theorem Do(L:List Tk)(f:Int):(cjP L f).length=L.length:=List.length_map ..
theorem KV{s:Str}{t:Tk}(h:t∈gW s):t.name= []∧(t.flags=0∨t.flags=16∨t.flags=8∨t.flags=24):=by
 obtain⟨a,⟨e,g⟩,rfl,_⟩:=nW s h;refine⟨by rw[e];rfl,?_⟩;show a.flags=0∨a.flags=16∨a.flags=8∨a.flags=24;rcases g with⟨g|g,_⟩|⟨g|g,_⟩
 ·exact .inl g
 ·exact .inr (.inl g)
 ·exact .inr (.inr (.inl g))
 ·exact .inr (.inr (.inr g))
theorem qfH(x:Co)(u:Un)(o:Dc)(h:w6)(hl:o.txt.length<=1000)(hs:o.txt≠ [])(hc:jc o.txt=0)(he:pP o.txt=0)(hg:z7 h frmN frmC):ACalls Tryz.prog 138 [.agg (coC x),.agg (unC u),.agg (dcC o)] h (ij (cjP (gW o.txt) u.frm)) h:=by
 have c1:=λl=>qfg o.txt (h++l) hl hs hc hg.app
 have hT:pQ o.txt=gW o.txt:=by unfold pQ;rw[ipo he]
 rw[hT]at c1;have hfl:=λt=> @KV o.txt t
 have hTl:=bT o.txt;obtain⟨T,hTe⟩:=wD (gW o.txt)
 rw[<-hTe]at c1 hTl hfl ⊢;have zu: ∀g l,valL g .len [zX l]= .int .i64 l.length:=λ_ _=>rfl
 have zv: ∀g l,okL g .len [zX l]=True:=λ_ _=>eqt trivial
 refine acO MD ?_;simp (disch:=omega) only[H4,coC,unC,dcC,go_sem]
 repeat' first|(refine cA (c1 _) flk ?_;simp (disch:=omega) only[zu,zv,go_sem])|with_reducible apply aiA|exact clz|fail
 refine qp (T:=λs:Nat×Nat×AObj×AObj=>zw 32 [(4,.op (h.length+1) 1 0),(12,zX T),(13,.int .i64 T.length),(14,.int .i64 s.1),(7,.osl (h.length+4) s.2.1 7 0 s.1)])
  (H:=λs=>h++ [.mem 1 26 (coC x),.mem 1 64 (unC u),.mem 1 43 (dcC o),.emp 1,zE s.2.1 120 (yw (cjP (T.take s.1) u.frm)),s.2.2.1,s.2.2.2,.emp 0])
  (inv:=λs=>s.1<=T.length∧qK [s.2.2.1] 0=true∧qK [s.2.2.2] 0=true) (m:=λs=>T.length-s.1) (0,1,.emp 0,.emp 0) ⟨nzl _,rfl,rfl⟩ (Wk.temps ?_) ?_
 ·(simp only[zX,go_sem,qg,qc,qa,qf];try exact wr)
 rintro⟨i,v,O1,O2⟩ ⟨i1,i2,i3⟩ K hK;simp only at i1 i2 i3 hK;have i2': ∀m,qK (O1::m) 0=true:=λ_=>i2
 have i3': ∀m,qK (O2::m) 0=true:=λ_=>i3
 have eL:(cjP (T.take i) u.frm).length=i:=by rw[Do,List.length_take];omega
 by_cases hi:i<T.length
 ·have k2:((i:Int)<T.length)=True:=xv;obtain⟨t,ht⟩:=wD (T.getD i default)
  have et:=ht.symm;obtain⟨hn,hf⟩:=hfl t (by rw[ht];exact zh hi);have hS:cjP (T.take (i+1)) u.frm=cjP (T.take i) u.frm++ [⟨t,u.frm⟩]:=by
   unfold cjP;rw[List.take_add_one,zG hi,List.map_append,ht,gdqA,zG hi];rfl
  obtain⟨L,hL⟩:=wD (cjP (T.take i) u.frm)
  rw[<-hL]at hS eL ⊢;have eC:=fS L;have eTk:List.take (i*7) (yw L)=yw L:=ltl om;obtain⟨tx,nm,pg,ln,fl,na⟩:=t;simp only at hn hf;subst hn;rcases hf with rfl|rfl|rfl|rfl
  all_goals
   simp (disch:=omega) only[coC,unC,dcC,zX,tkC,k2,et,i2',i3',eC,eL,eTk,go_sem]
   repeat' first|with_reducible apply aiA|exact clz|fail
  ·refine hK _ _ (i+1,v+1,.mem (qn (some O1)+1) 92 (tkC ⟨tx,nm,pg,ln,0,[]⟩),.mem (qn (some O2)+1) 120 (pcC ⟨⟨tx,nm,pg,ln,0,[]⟩,u.frm⟩)) ⟨hi,rfl,rfl⟩ (by simp only;omega) ?_;simp only[hS,pcC,tkC,yV,yW,lca,lna];refine Wk.temps ?_
   (simp only[zX,tkC,go_sem,qg,qc,qa,qf];try exact wr)
  ·refine hK _ _ (i+1,v+1,.mem (qn (some O1)+1) 92 (tkC ⟨tx,nm,pg,ln,16,[]⟩),.mem (qn (some O2)+1) 120 (pcC ⟨⟨tx,nm,pg,ln,16,[]⟩,u.frm⟩)) ⟨hi,rfl,rfl⟩ (by simp only;omega) ?_;simp only[hS,pcC,tkC,yV,yW,lca,lna];refine Wk.temps ?_
   (simp only[zX,tkC,go_sem,qg,qc,qa,qf];try exact wr)
  ·refine hK _ _ (i+1,v+1,.mem (qn (some O1)+1) 92 (tkC ⟨tx,nm,pg,ln,8,[]⟩),.mem (qn (some O2)+1) 120 (pcC ⟨⟨tx,nm,pg,ln,8,[]⟩,u.frm⟩)) ⟨hi,rfl,rfl⟩ (by simp only;omega) ?_;simp only[hS,pcC,tkC,yV,yW,lca,lna];refine Wk.temps ?_
   (simp only[zX,tkC,go_sem,qg,qc,qa,qf];try exact wr)
  ·refine hK _ _ (i+1,v+1,.mem (qn (some O1)+1) 92 (tkC ⟨tx,nm,pg,ln,24,[]⟩),.mem (qn (some O2)+1) 120 (pcC ⟨⟨tx,nm,pg,ln,24,[]⟩,u.frm⟩)) ⟨hi,rfl,rfl⟩ (by simp only;omega) ?_;simp only[hS,pcC,tkC,yV,yW,lca,lna];refine Wk.temps ?_
   (simp only[zX,tkC,go_sem,qg,qc,qa,qf];try exact wr)
 have k2:((i:Int)<T.length)=False:=xD;obtain rfl:i=T.length:=by omega
 simp (disch:=omega) only[k2,go_sem]
 repeat' first|(apply qb;exact rvk;simp only[go_sem])
 rw[List.take_length]at eL ⊢;exact pG eL.symm
end RC
end
section
open Go Go.Proofs AF
def EA:List Nat:= [80]
def Hf:C:=
 (v6 [O1 4 (.box 0 120) 0] (v6 [vT 9 0 4,vT 10 0 9,LD 11 10,vT 12 6 4,LD 13 12,MV 14 1,MV 15 2,vT 16 0 4,vT 17 4 16,LD 18 17,vV 19 .and 18 4,vV 20 .neq 19 0,vT 21 0 4,vT 22 5
 21,LD 23 22,⟨some 24,none,.build [.str [],i6 0,i6 0,i6 0,.bool false,.bool false,.str []] [(0,1),(1,1),(2,1),(3,1),(5,1),(6,1)],[.t 11,.t 13,.t 14,.t 15,.t 20,.t 23]⟩,⟨some
 7,none,.alloc 1 36 [.str [],i6 0,i6 0,i6 0,.bool false,.bool false,.str []],[]⟩,ST 7 7 24] (v6 [LD 25 3,O1 26 .len 25,MV 8 26] (v6 [vT 27 0 4,vT 28 4 27,LD 29 28,vV 30 .and 29
 16,vV 31 .neq 30 0,MV 32 31,MG 33 32 true 8,PC 34 32 true (.bin .gtr) 33 (i6 0),PF 35 32 34,MV 36 35,P1 37 36 true (.load none) 3,MG 38 36 true 8,PC 39 36 true (.bin .sub) 38
 (i6 1),P2 40 36 true (.idxA 7) 37 39,P1 41 36 true (.fldA 0) 40,P1 42 36 true (.load none) 41,P1 43 36 true (.fldA 0) 7,P1 44 36 true (.load none) 43,P2 45 36 true (.call 81
 true) 42 44,PF 46 36 45,vT 47 4 7,ST 1 47 46] (wc [LD 48 3,O1 49 (.load (some 7)) 7,⟨some 50,none,.bslc 2 7 1 36 [.str [],i6 0,i6 0,i6 0,.bool false,.bool false,.str []]
 [(0,7)],[.t 49]⟩,O2 51 (.app 3 7 36 64) 48 50,ST 1 3 51])))))
theorem Zf:qN Tryz.prog 80 52 4 [] Hf:=fi Tryz.f80 [4,7,50,51] EA []
end
section
open Go Go.Proofs AF HY LN
namespace RC
theorem qbG: ∀f:Nat,f<32->VK .i64 (f:Int) 4=if f.testBit 2 then 4 else 0:=by decide+kernel
theorem Hz: ∀f:Nat,f<32->VK .i64 (f:Int) 16=if f.testBit 4 then 16 else 0:=by decide+kernel
def EN(W:List Wd):Option Str:=if W.length=0 then none else some (W.getD (W.length-1) default).text
section
variable {h : w6} {a b c va : Nat}
def Fb(h:w6)(a b c:Nat)(va vb:Nat)(W:List Wd)(Z:AObj):w6:=tri h a b c (.mem va 29 [.osl b vb 7 0 W.length]) (zE vb 36 (jC W)) Z
theorem qe3(t:T3 h a b c)(W:List Wd)(p:Pc)(u d:Int)(vb F:Nat)(Z:AObj)(hZ: ∀n,lowO n Z)(hF:p.t.flags=F)(hF2:F<32)(hx:p.t.text.length<=1000000000)(hW:W.length<=1000000000)(hWx: ∀w∈W,w.text.length<=1000000000):ACalls Tryz.prog 80 [.agg (pcC p),.int .i64 u,.int .i64 d,.op a va 0] (Fb h a b c va vb W Z) (.tup []) (Fb h a b c va (vb+1) (W++ [mkW (EN W) ⟨p,u,d⟩]) Z):=by
 have ta:=t.la;have tb:=t.lb;have tc:=t.lc;have zga: ∀ {X Y Z l},qv (a) (tri h a b c X Y Z++l)=some X:=xe (t);have yga: ∀ {X Y Z},qv (a) (tri h a b c X Y Z)=some X:=λ{X Y Z}=>by have:=zga (X:=X) (Y:=Y) (Z:=Z) (l:= []);simpa only[lan] using this
 have zgb: ∀ {X Y Z l},qv (b) (tri h a b c X Y Z++l)=some Y:=xF (t);have ygb: ∀ {X Y Z},qv (b) (tri h a b c X Y Z)=some Y:=λ{X Y Z}=>by have:=zgb (X:=X) (Y:=Y) (Z:=Z) (l:= []);simpa only[lan] using this
 have zgc: ∀ {X Y Z l},qv (c) (tri h a b c X Y Z++l)=some Z:=xf (t);have ygc: ∀ {X Y Z},qv (c) (tri h a b c X Y Z)=some Z:=λ{X Y Z}=>by have:=zgc (X:=X) (Y:=Y) (Z:=Z) (l:= []);simpa only[lan] using this
 have zsa: ∀ {X Y Z o l},qu (a) (tri h a b c X Y Z++l) o=tri h a b c o Y Z++l:=xG (t);have ysa: ∀ {X Y Z o},qu (a) (tri h a b c X Y Z) o=tri h a b c o Y Z:=λ{X Y Z o}=>by have:=zsa (X:=X) (Y:=Y) (Z:=Z) (o:=o) (l:= []);simpa only[lan] using this
 have zsb: ∀ {X Y Z o l},qu (b) (tri h a b c X Y Z++l) o=tri h a b c X o Z++l:=yd (t);have ysb: ∀ {X Y Z o},qu (b) (tri h a b c X Y Z) o=tri h a b c X o Z:=λ{X Y Z o}=>by have:=zsb (X:=X) (Y:=Y) (Z:=Z) (o:=o) (l:= []);simpa only[lan] using this
 have zsc: ∀ {X Y Z o l},qu (c) (tri h a b c X Y Z++l) o=tri h a b c X Y o++l:=ye (t);have ysc: ∀ {X Y Z o},qu (c) (tri h a b c X Y Z) o=tri h a b c X Y o:=λ{X Y Z o}=>by have:=zsc (X:=X) (Y:=Y) (Z:=Z) (o:=o) (l:= []);simpa only[lan] using this
 have zca: ∀ {X Y Z v l},cellsOf (tri h a b c X Y Z++l) (a) v=qw (some X) v:=y7 (t);have yca: ∀ {X Y Z v},cellsOf (tri h a b c X Y Z) (a) v=qw (some X) v:=λ{X Y Z v}=>by have:=zca (X:=X) (Y:=Y) (Z:=Z) (v:=v) (l:= []);simpa only[lan] using this
 have zcb: ∀ {X Y Z v l},cellsOf (tri h a b c X Y Z++l) (b) v=qw (some Y) v:=y8 (t);have ycb: ∀ {X Y Z v},cellsOf (tri h a b c X Y Z) (b) v=qw (some Y) v:=λ{X Y Z v}=>by have:=zcb (X:=X) (Y:=Y) (Z:=Z) (v:=v) (l:= []);simpa only[lan] using this
 have zcc: ∀ {X Y Z v l},cellsOf (tri h a b c X Y Z++l) (c) v=qw (some Z) v:=y9 (t);have ycc: ∀ {X Y Z v},cellsOf (tri h a b c X Y Z) (c) v=qw (some Z) v:=λ{X Y Z v}=>by have:=zcc (X:=X) (Y:=Y) (Z:=Z) (v:=v) (l:= []);simpa only[lan] using this
 have zla: ∀ {X Y Z v l},qI (tri h a b c X Y Z++l) (a) v=qM (some X) v:=aa (t);have yla: ∀ {X Y Z v},qI (tri h a b c X Y Z) (a) v=qM (some X) v:=λ{X Y Z v}=>by have:=zla (X:=X) (Y:=Y) (Z:=Z) (v:=v) (l:= []);simpa only[lan] using this
 have zlb: ∀ {X Y Z v l},qI (tri h a b c X Y Z++l) (b) v=qM (some Y) v:=ae (t);have ylb: ∀ {X Y Z v},qI (tri h a b c X Y Z) (b) v=qM (some Y) v:=λ{X Y Z v}=>by have:=zlb (X:=X) (Y:=Y) (Z:=Z) (v:=v) (l:= []);simpa only[lan] using this
 have zlc: ∀ {X Y Z v l},qI (tri h a b c X Y Z++l) (c) v=qM (some Z) v:=af (t);have ylc: ∀ {X Y Z v},qI (tri h a b c X Y Z) (c) v=qM (some Z) v:=λ{X Y Z v}=>by have:=zlc (X:=X) (Y:=Y) (Z:=Z) (v:=v) (l:= []);simpa only[lan] using this
 have e4:=qbG F hF2;have e16:=Hz F hF2;have hL:=ig W;have ev:qdz p.t.flags=F.testBit 2:=by unfold qdz;rw[hF,itn]
 have ej:jnB p.t.flags=F.testBit 4:=by unfold jnB;rw[hF,itn]
 unfold mkW;simp only[ev,ej];unfold Fb;have eTk:List.take (W.length*7) (jC W)=jC W:=ltl om;have lo: ∀(n:Nat),lowO h.length (.mem va 29 [.osl b (vb+1) 7 0 n]):=λn cc hc=>by
  rw[List.mem_singleton]at hc;subst hc;simp[ze];omega
 have lq: ∀L:List Wd,lowO h.length (zE (vb+1) 36 (jC L)):=λL=>ju (bW L _)
 have fin: ∀(w:Wd) (tt:w7) (tl:w6),fnQ [] (tri h a b c (.mem va 29 [.osl b vb 7 0 W.length]) (zE vb 36 (jC W)) Z) (λr1 h1=>r1= .tup []∧h1=tri h a b c (.mem va 29 [.osl b (vb+1) 7 0 (W++ [w]).length]) (zE (vb+1) 36 (jC (W++ [w]))) Z) .normal tt (tri h a b c (.mem va 29 [.osl b (vb+1) 7 0 (W.length+1)]) (zE (vb+1) 36 (jC W++wdC w)) Z++tl):=λw tt tl=>by
  have eA:jC W++wdC w=jC (W++ [w]):=by rw[pX,pZ]
  rw[eA,show (W++ [w]).length=W.length+1 by simp];exact zW trivial (by simp only[tri_len]) (jW t (lo _) (lq _) (hZ _)) ⟨rfl,rfl⟩ (qi)
 have k4:((4:Int)=0)=False:=eqf (by decide);have k16:((16:Int)=0)=False:=eqf (by decide);have hb1: ∀n,(b !=h.length+n)=true:=λn=>by simp;omega
 by_cases hW0:W= []
 ·have k0:((0:Int)<W.length)=False:=eqf (by rw[hW0];simp);have eG:(qw (some (zE vb 36 (jC W))) vb).getD []=jC W:=by rw[hW0];rfl
  have el:EN W=none:=by unfold EN;rw[ipo (by rw[hW0];rfl)]
  rw[el];cases g2:F.testBit 2<;>cases g4:F.testBit 4<;>rw[g2]at e4<;>rw[g4]at e16<;>simp only[Bool.false_eq_true,if_false,if_true]at e4 e16
  all_goals
   refine acO Zf ?_;simp (disch:=omega) only[Hf,pcC,tkC,hF,e4,e16,zca,zcb,zlb,zC,ql,eG,hL,k0,k4,k16,decide_true,decide_false,Bool.not_false,Bool.not_true,Bool.and_false,go_sem]
   repeat' first|(refine qj ( .bool false) ?_;simp (disch:=omega) only[zga,zgb,zsa,zsb,zca,zcb,zlb,zC,ql,eG,eTk,hL,Bool.not_false,Bool.and_false,go_sem])|with_reducible apply aiA|exact clz|fail
  all_goals try exact hb1 _
  all_goals exact fin ⟨_,_,_,_,_,_,_⟩ _ _
 ·have hpos:0<W.length:=List.length_pos_iff.2 hW0;have k0:((0:Int)<W.length)=True:=xv;obtain⟨z,hz⟩:=wD (W.getD (W.length-1) default)
  have el:EN W=some z.text:=by unfold EN;rw[ine om,hz]
  rw[el];have hzx:=hWx z (by rw[hz];exact zh om);have gI:(jC W)[(W.length-1)*7]? =some (.str z.text):=by
   have:=pY (L:=W) (i:=W.length-1) om
   rw[<-hz]at this;have h2:(((jC W).drop ((W.length-1)*7)).take 7)[0]? =some (.str z.text):=by rw[this];rfl
   rwa [List.getElem?_take,ipo om,List.getElem?_drop,Nat.add_zero]at h2
  have eI:((W.length:Int)-1).toNat=W.length-1:=by omega
  have eO:qw (some (zE vb 36 (jC W))) vb=some (jC W):=by
   rw[w8 (λe=>by rw[e]at hL;simp at hL;omega),ql,ipo rfl]
  have c1:=λh=>qfE z.text p.t.text h hzx hx
  cases g2:F.testBit 2<;>cases g4:F.testBit 4<;>rw[g2]at e4<;>rw[g4]at e16<;>simp only[Bool.false_eq_true,if_false,if_true]at e4 e16
  case false.false=>
   refine acO Zf ?_;simp (disch:=omega) only[Hf,pcC,tkC,hF,e4,e16,zca,zcb,zlb,zC,ql,eO,hL,k0,decide_true,Bool.not_false,Bool.not_true,Bool.and_true,Bool.false_and,Bool.true_and,eI,gI,go_sem]
   repeat' first|(refine qj ( .bool false) ?_;simp (disch:=omega) only[zga,zgb,zsa,zsb,zca,zcb,zlb,zC,ql,eO,eTk,hL,Bool.not_false,Bool.false_and,Bool.true_and,go_sem])|with_reducible apply aiA|exact clz|fail
   all_goals try exact hb1 _
   exact fin ⟨_,_,_,_,_,_,_⟩ _ _
  case false.true=>
   refine acO Zf ?_;simp (disch:=omega) only[Hf,pcC,tkC,hF,e4,e16,zca,zcb,zlb,zC,ql,eO,hL,k0,k16,decide_true,decide_false,Bool.not_false,Bool.not_true,Bool.and_true,Bool.false_and,Bool.true_and,eI,gI,go_sem]
   repeat' first|(refine cG (λe=>c1 _) flk ?_;simp (disch:=omega) only[zga,zgb,zsa,zsb,zca,zcb,zlb,zC,ql,eO,eTk,hL,Bool.not_true,Bool.false_and,Bool.true_and,go_sem])|with_reducible apply aiA|exact clz|fail
   all_goals try exact hb1 _
   exact fin ⟨_,_,_,_,_,_,_⟩ _ _
  case true.false=>
   refine acO Zf ?_;simp (disch:=omega) only[Hf,pcC,tkC,hF,e4,e16,zca,zcb,zlb,zC,ql,eO,hL,k0,k4,decide_true,decide_false,Bool.not_false,Bool.not_true,Bool.and_true,Bool.false_and,Bool.true_and,eI,gI,go_sem]
   repeat' first|(refine qj ( .bool false) ?_;simp (disch:=omega) only[zga,zgb,zsa,zsb,zca,zcb,zlb,zC,ql,eO,eTk,hL,Bool.not_false,Bool.false_and,Bool.true_and,go_sem])|with_reducible apply aiA|exact clz|fail
   all_goals try exact hb1 _
   exact fin ⟨_,_,_,_,_,_,_⟩ _ _
  case true.true=>
   refine acO Zf ?_;simp (disch:=omega) only[Hf,pcC,tkC,hF,e4,e16,zca,zcb,zlb,zC,ql,eO,hL,k0,k4,k16,decide_true,decide_false,Bool.not_false,Bool.not_true,Bool.and_true,Bool.false_and,Bool.true_and,eI,gI,go_sem]
   repeat' first|(refine cG (λe=>c1 _) flk ?_;simp (disch:=omega) only[zga,zgb,zsa,zsb,zca,zcb,zlb,zC,ql,eO,eTk,hL,Bool.not_true,Bool.false_and,Bool.true_and,go_sem])|with_reducible apply aiA|exact clz|fail
   all_goals try exact hb1 _
   exact fin ⟨_,_,_,_,_,_,_⟩ _ _
end
structure wt (x:Co) (l:List Un) (d:List Dc) (s:Nat):Prop where
 ca:coE x=0
 us:wJ x l=true
 cv:cvA x l=true
 sl:s<x.sig.length
 dl:d.length<=256
 pl: ∀j,j<d.length->yb x l (d.getD j default)=0
 ln:(rwA x l d s).length<=1024
theorem dk{x:Co}{l:List Un}(h:vaE x l=0):coE x=0∧wJ x l=true∧cvA x l=true:=by
 unfold vaE at h;split at h
 ·cases h
 rename_i h1;split at h
 ·cases h
 rename_i h2;have h2:rgB x l=true:=by simpa using h2
 unfold rgB at h2;rw[Bool.and_eq_true]at h2;exact⟨Classical.not_not.1 h1,h2.1,h2.2⟩
theorem Fv{x:Co}{l:List Un}{d:List Dc}(h:az x l d=0):d.length<=256∧ ∀j,j<d.length->yb x l (d.getD j default)=0:=by
 unfold az at h;split at h
 ·cases h
 exact⟨om,jE.1 h⟩
theorem LO{x:Co}{l:List Un}{d:List Dc}{s:Int}(h:esE x l d s=0):0<=s∧wt x l d s.toNat:=by
 unfold esE at h;split at h
 ·rename_i h1;exact absurd h h1
 rename_i h1;split at h
 ·cases h
 rename_i h2;split at h
 ·rename_i h3;exact absurd h h3
 rename_i h3;split at h
 ·cases h
 rename_i h4;obtain⟨a1,a2,a3⟩:=dk (Classical.not_not.1 h1);obtain⟨b1,b2⟩:=Fv (Classical.not_not.1 h3);exact⟨om,a1,a2,a3,om,b1,b2,om⟩
theorem wt.co{x:Co}{l:List Un}{d:List Dc}{s:Nat}(h:wt x l d s):CoOk x:=kh h.ca
theorem Ja{x:Co}(h:CoOk x){s k:Nat}(hs:s<x.sig.length)(hk:k<x.col.length)(hb:pcB x s k=true):tkE (pcT x s k).t=0∧((x.col.getD k []).getD s 0).toNat<(x.tok.getD s []).length:=by
 unfold pcB at hb;have hb:=of_decide_eq_true hb;rcases h.ce k hk s hs with e|⟨e1,e2⟩
 ·omega
 ·exact⟨h.te s (by rw[h.tn];exact hs) _ om,om⟩
theorem KR{t:Tk}(h:tkE t=0):t.text≠ []∧t.text.length<=64:=by
 have h1:=Rn h;unfold txB at h1;split at h1
 ·rw[Bool.and_eq_true]at h1;have h2:=h1.1;unfold iU at h2;rw[List.any_eq_true]at h2;obtain⟨k,hk,e⟩:=h2;rw[of_decide_eq_true e];refine⟨List.cons_ne_nil _ _,?_⟩;have h3:((List.range 64).all λk=>decide ((91::(Lib.itoa ((k+1:Nat):Int)++ [93]):Str).length<=64))=true:=by decide+kernel
  exact of_decide_eq_true (List.all_eq_true.1 h3 k hk)
 ·split at h1
  ·rw[Bool.and_eq_true]at h1;have h2:=h1.1;unfold Hh at h2;rw[Bool.and_eq_true,decide_eq_true_iff]at h2;refine⟨λe=> ?_,om⟩;rw[e]at h2;cases h2.1
  ·rw[Bool.and_eq_true]at h1;have h2:=h1.1;rw[yO]at h2;simp only[Bool.and_eq_true,decide_eq_true_eq]at h2;refine⟨λe=> ?_,om⟩;rw[e]at h2;simp at h2
structure RwP (x:Co) (l:List Un) (d:List Dc) (s k:Nat) (r:Rw):Prop where
 u:r.u=k
 f:(frN l k:Int)<=r.p.c
 t:r.p.c<toN l k
 dr: -1<=r.d∧r.d<d.length
 tx:r.p.t.text≠ []∧r.p.t.text.length<=64
theorem ZE{x:Co}{l:List Un}{d:List Dc}{s:Nat}(h:wt x l d s){k:Nat}(hl: ¬wz x l d k d.length<0):
  (wz x l d k d.length).toNat<d.length∧yb x l (d.getD (wz x l d k d.length).toNat default)=0∧jN x l (d.getD (wz x l d k d.length).toNat default)=k:=by
 have h1:=xQ x l d k d.length;refine⟨om,h.pl _ om,mU (n:=d.length) om⟩
theorem Kx{x:Co}(h:CoOk x){s f d:Nat}(hs:s<x.sig.length)(hd:f+d<=x.col.length){p:Pc}(hp:p∈spk x s f d):(f:Int)<=p.c∧p.c<((f+d:Nat):Int)∧p.t.text≠ []∧p.t.text.length<=64:=by
 obtain⟨k,h1,h2,h3,rfl⟩:=mV.1 hp;obtain⟨a1,_⟩:=Ja h hs (show k<x.col.length by omega) h3;obtain⟨b1,b2⟩:=KR a1;exact⟨by show (f:Int)<=((k:Nat):Int);omega,by show ((k:Nat):Int)<_;omega,b1,b2⟩
theorem Fq{x:Co}{l:List Un}{d:List Dc}{s:Nat}(h:wt x l d s){k:Nat}(hk:k<l.length){o:Dc}(ho:yb x l o=0){p:Pc}(hp:p∈mn x l k o):(frN l k:Int)<=p.c∧p.c<toN l k∧p.t.text≠ []∧p.t.text.length<=64:=by
 obtain⟨a1,a2,a3,a4,_⟩:=jO h.us hk;obtain⟨b1,b2,b3,b4,b5,b6⟩:=w9 ho;obtain⟨c1,c2,_⟩:=lW b4;unfold mn at hp;split at hp
 ·obtain⟨e1,e2,e3⟩:=Kx h.co c2 (show frN l k+(toN l k-frN l k)<=x.col.length by omega) hp;exact⟨e1,om,e3⟩
 ·split at hp
  ·rename_i g2;obtain⟨t,ht,rfl⟩:=List.mem_map.1 hp;obtain⟨u,hu,rfl,hu0⟩:=nW o.txt ht;obtain⟨_,e2,_⟩:=Qv b6 g2;have e3:=Gl.1 e2 u hu0;refine⟨?_,?_,hu.ne,e3⟩
   ·show (frN l k:Int)<=(l.getD k default).frm;omega
   ·show (l.getD k default).frm<toN l k;omega
  ·cases hp
theorem lL{x:Co}{l:List Un}{d:List Dc}{s:Nat}(h:wt x l d s){k:Nat}(hk:k<l.length){r:Rw}(hr:r∈rwU x l d s k):RwP x l d s k r:=by
 obtain⟨a1,a2,a3,a4,_⟩:=jO h.us hk;have hg:=xQ x l d k d.length;unfold rwU at hr;split at hr
 ·obtain⟨g1,g2,g3⟩:=jz.1 hr;obtain⟨e1,e2,e3⟩:=Kx h.co h.sl (show frN l k+(toN l k-frN l k)<=x.col.length by omega) g1;exact⟨g2,e1,om,om,e3⟩
 ·rename_i hl;obtain⟨g1,g2,g3⟩:=jz.1 hr;obtain⟨c1,c2,_⟩:=ZE h hl;obtain⟨e1,e2,e3⟩:=Fq h hk c2 g1;exact⟨g2,e1,e2,om,e3⟩
theorem fc{x:Co}{l:List Un}{d:List Dc}{s:Nat}(h:wt x l d s){f t:Nat}(ht:t<=x.col.length){r:Rw}(hr:r∈rwC x s f t):r.u= -1∧r.d= -1∧(f:Int)<=r.p.c∧r.p.c<t∧r.p.t.text≠ []∧r.p.t.text.length<=64:=by
 unfold rwC at hr;obtain⟨g1,g2,g3⟩:=jz.1 hr
 by_cases hft:f<=t
 ·obtain⟨e1,e2,e3⟩:=Kx h.co h.sl (show f+(t-f)<=x.col.length by omega) g1;exact⟨g2,g3,e1,om,e3⟩
 ·rw[show t-f=0 by omega]at g1;cases g1
structure RwG (x:Co) (l:List Un) (d:List Dc) (r:Rw):Prop where
 c:0<=r.p.c∧r.p.c<x.col.length
 u:fnU l r.p.c=r.u
 d: -1<=r.d∧r.d<d.length
 n:r.u<0->r.u= -1∧r.d= -1
 tx:r.p.t.text≠ []∧r.p.t.text.length<=64
theorem PV{x:Co}{l:List Un}{d:List Dc}{s k:Nat}(h:wt x l d s)(hk:k<l.length){r:Rw}(hr:RwP x l d s k r):RwG x l d r:=by
 obtain⟨a1,a2,a3,a4,_⟩:=jO h.us hk;have h1:=hr.f;have h2:=hr.t;have h3:=hr.u;refine⟨om,?_,hr.dr,λhn=>by omega,hr.tx⟩
 have:=Xl h.us hk (c:=r.p.c.toNat) om om
 rw[show ((r.p.c.toNat:Nat):Int)=r.p.c by omega]at this;rw[this,h3]
theorem PS{x:Co}{l:List Un}{d:List Dc}{s:Nat}(h:wt x l d s){k t:Nat}(hk:k<=l.length)(ht:t<=x.col.length)(hf:k<l.length->t<=frN l k){r:Rw}(hr:r∈rwC x s (zx l k) t):RwG x l d r:=by
 obtain⟨g1,g2,g3,g4,g5⟩:=fc h ht hr;refine⟨om,?_,om,λ_=>⟨g1,g2⟩,g5⟩
 have:=Zh h.us hk (c:=r.p.c.toNat) om (λhk=>by have:=hf hk;omega)
 rw[show ((r.p.c.toNat:Nat):Int)=r.p.c by omega]at this;rw[this,g1]
theorem JW{x:Co}{l:List Un}{d:List Dc}{s:Nat}(h:wt x l d s): ∀k,k<=l.length->(∀r∈rwL x l d s k,RwG x l d r∧r.p.c<zx l k∧r.u<k)∧(rwL x l d s k).Pairwise λa b=>a.p.c<=b.p.c:=by
 intro k
 induction k with
 |zero=>intro _;exact⟨λr hr=>(by cases hr),List.Pairwise.nil⟩
 |succ k ih=>
  intro hk;obtain⟨i1,i2⟩:=ih om;obtain⟨a1,a2,a3,a4,_⟩:=jO h.us (show k<l.length by omega);have hp:=aW h.us (show k<l.length by omega);have c1:=λr (hr:r∈rwC x s (zx l k) (frN l k))=>fc h (show frN l k<=x.col.length by omega) hr
  have u1:=λr (hr:r∈rwU x l d s k)=>lL h (show k<l.length by omega) hr
  have mem: ∀r∈rwL x l d s (k+1),r∈rwL x l d s k∨r∈rwC x s (zx l k) (frN l k)∨r∈rwU x l d s k:=λr hr=>by
   rcases List.mem_append.1 (show r∈rwL x l d s k++_ from hr)with hr|hr
   ·exact .inl hr
   ·exact .inr (List.mem_append.1 hr)
  refine⟨λr hr=> ?_,?_⟩
  ·rw[xR];rcases mem r hr with hr|hr|hr
   ·obtain⟨g1,g2,g3⟩:=i1 r hr;exact⟨g1,om,om⟩
   ·obtain⟨g1,g2,g3,g4,g5⟩:=c1 r hr;exact⟨PS h (show k<=l.length by omega) om (λ_=>nlr _) hr,om,om⟩
   ·have g:=u1 r hr
    have:=g.t
    have:=g.u
    exact⟨PV h om g,om,om⟩
  ·show (rwL x l d s k++(rwC x s (zx l k) (frN l k)++rwU x l d s k)).Pairwise _;rw[List.pairwise_append];refine⟨i2,?_,λa ha b hb=> ?_⟩
   ·rw[List.pairwise_append];refine⟨?_,?_,λa ha b hb=> ?_⟩
    ·unfold rwC rwM;rw[List.pairwise_map];exact spk_pw x s (zx l k) _
    ·unfold rwU;split
     ·unfold rwM;rw[List.pairwise_map];exact spk_pw x s _ _
     ·unfold rwM;rw[List.pairwise_map];unfold mn;split
      ·exact spk_pw x _ _ _
      ·split
       ·rw[List.pairwise_map];exact List.pairwise_of_forall λ_ _=>Int.le_refl _
       ·exact List.Pairwise.nil
    ·have:=(c1 a ha).2.2.2.1
     have:=(u1 b hb).f
     omega
   ·have h1:=(i1 a ha).2.1;rcases List.mem_append.1 hb with hb|hb
    ·have:=(c1 b hb).2.2.1;omega
    ·have:=(u1 b hb).f;omega
where
 spk_pw (x:Co) (s f:Nat): ∀d,(spk x s f d).Pairwise λa b=>a.c<=b.c:=by
  intro d
  induction d with
  |zero=>exact List.Pairwise.nil
  |succ d ih=>
   unfold spk;rw[List.pairwise_append];refine⟨ih,?_,λa ha b hb=> ?_⟩
   ·split
    ·exact List.pairwise_singleton _ _
    ·exact List.Pairwise.nil
   ·obtain⟨k,h1,h2,_,rfl⟩:=mV.1 ha;split at hb
    ·rw[List.mem_singleton]at hb;subst hb;show ((k:Nat):Int)<=((f+d:Nat):Int);omega
    ·cases hb
theorem pD{x:Co}{l:List Un}{d:List Dc}{s:Nat}(h:wt x l d s):(∀r∈rwA x l d s,RwG x l d r)∧(rwA x l d s).Pairwise λa b=>a.p.c<=b.p.c:=by
 obtain⟨i1,i2⟩:=JW h l.length (nlr _);refine⟨λr hr=> ?_,?_⟩
 ·rcases List.mem_append.1 (show r∈rwL x l d s l.length++_ from hr)with hr|hr
  ·exact (i1 r hr).1
  ·exact PS h (nlr _) (nlr _) (λh=>absurd h (Nat.lt_irrefl _)) hr
 ·show (rwL x l d s l.length++_).Pairwise _;rw[List.pairwise_append];refine⟨i2,?_,λa ha b hb=> ?_⟩
  ·unfold rwC rwM;rw[List.pairwise_map];exact JW.spk_pw x s _ _
  ·have h1:=(i1 a ha).2.1;have h2:=(fc h (nlr _) hb).2.2.1;omega
def PcF(p:Pc):Prop:=(∃F:Nat,p.t.flags=F∧F<32)∧p.t.text.length<=64
theorem Fh{p:Pc}(h:tkE p.t=0):PcF p:=by
 refine⟨?_,(KR h).2⟩;unfold tkE at h;split at h
 ·cases h
 ·rename_i g;exact⟨p.t.flags.toNat,om,om⟩
theorem xz{x:Co}(ho:CoOk x){s f d:Nat}(hs:s<x.sig.length)(hd:f+d<=x.col.length): ∀p∈spk x s f d,PcF p:=by
 intro p hp;obtain⟨k,k1,k2,k3,rfl⟩:=mV.1 hp;exact Fh (Ja ho hs om k3).1
theorem BX{s:Str}{f:Int}(h:pP s=0): ∀p∈cjP (gW s) f,PcF p:=by
 intro p hp;unfold cjP at hp;obtain⟨t,ht,rfl⟩:=List.mem_map.1 hp;obtain⟨_,g⟩:=KV ht;refine⟨?_,?_⟩
 ·rcases g with g|g|g|g
  ·exact⟨0,g,om⟩
  ·exact⟨16,g,om⟩
  ·exact⟨8,g,om⟩
  ·exact⟨24,g,om⟩
 ·unfold pP at h;split at h
  ·cases h
  ·rename_i g2;have g3:=aw.1 (Bool.eq_false_iff.2 g2);obtain⟨u,_,e,hu⟩:=nW s ht
   have:=g3 u hu
   rw[e];exact this
theorem V9{L:List Rw}{n:Nat}(h: ∀r∈L,r.p.t.text.length<=n): ∀w∈bsW L,w.text.length<=n:=by
 intro w hw;unfold bsW at hw;obtain⟨i,hi,rfl⟩:=List.mem_map.1 hw;rw[List.mem_range]at hi;exact h _ (zh hi)
theorem Ht{hh:w6}{a b c va vb:Nat}{Z:AObj}(t:T3 hh a b c)(L:List Rw)(p:Pc)(u d:Int)(hX:qv a hh=some (.mem va 29 [.osl b vb 7 0 L.length]))(hY:qv b hh=some (zE vb 36 (jC (bsW L))))(hZg:qv c hh=some Z)(hZ: ∀n,lowO n Z)(hp:PcF p)(hL:L.length<=1000000000)(hLx: ∀r∈L,PcF r.p):
  ACalls Tryz.prog 80 [.agg (pcC p),.int .i64 u,.int .i64 d,.op a va 0] hh (.tup []) (qu b (qu a hh (.mem va 29 [.osl b (vb+1) 7 0 (L.length+1)])) (zE (vb+1) 36 (jC (bsW (L++ [⟨p,u,d⟩]))))):=by
 obtain⟨⟨F,f1,f2⟩,f3⟩:=hp;have h1:=qe3 (va:=va) t (bsW L) p u d vb F Z hZ f1 f2 om (by rw[jD];exact hL) (λw hw=>Nat.le_trans (V9 (n:=64) (λr hr=>(hLx r hr).2) w hw) om);have e1:Fb hh a b c va vb (bsW L) Z=hh:=by
  unfold Fb;rw[jD];exact Cb hX hY hZg
 have e2:EN (bsW L)=VO (L++ [⟨p,u,d⟩]) L.length:=by
  rw[Jp];unfold EN;rw[jD]
 rw[e1,e2,<-V8]at h1;have e3:Fb hh a b c va (vb+1) (bsW (L++ [⟨p,u,d⟩])) Z=qu b (qu a hh (.mem va 29 [.osl b (vb+1) 7 0 (L.length+1)])) (zE (vb+1) 36 (jC (bsW (L++ [⟨p,u,d⟩])))):=by
  unfold Fb tri;rw[jD,lap,lco,lnl];refine jJ ?_;rw[qX (λe=>t.bc e.symm),qX (λe=>t.ac e.symm)];exact hZg
 rw[e3]at h1;exact h1
end RC
end
section
open Go Go.Proofs AF
def an:List Nat:= []
def HQ:C:=
 (v6 [O1 2 (.box 0 29) 0,O1 3 (.box 1 3) 1,MC 4 .nilfn] (wa [O2 5 (.mkfn (Fn.func 166) 0) 2 3,MV 4 5]))
theorem L6:qN Tryz.prog 123 6 2 [RV.tmp 4] HQ:=fi Tryz.f123 [2,3] an []
def If:C:=
 (v6 [LD 6 1,O1 7 .len 6,vU 8 0] (C.block 0 (v6 [BI 9 .lss 8 7] ((v8 9 0).seq ((C.block 1 (v6 [MV 10 8,O2 11 (.idxA 7) 6 8,O1 12 (.load (some 7)) 11,⟨some 5,none,.alloc 0 36
 [.str [],i6 0,i6 0,i6 0,.bool false,.bool false,.str []],[]⟩,MV 4 10,ST 7 5 12] (v6 [vT 13 2 5,LD 14 13,LD 15 2,BI 16 .eql 14 15,MV 17 16,MG 18 17 true 0,MG 19 17 true 4,P1 20
 17 true (.load (some 7)) 5,PN 21 17 true .callv [.t 18,.t 19,.t 20],P1 22 17 true (.un UnOp.not) 21,PF 23 17 22] (v7 23 C.ret)))).seq (wc [vV 24 .add 8 1,MV 8 24])))).loop))
theorem MO:qN Tryz.prog 166 25 1 [] If:=fi Tryz.f166 [5] an []
def Ie:C:=
 (v6 [O1 2 (.box 0 97) 0,MC 3 (.bool false)] (wa [vT 4 0 2,LD 5 4,LD 6 1,O2 7 (.call 36 true) 5 6,MV 3 7]))
theorem MN:qN Tryz.prog 165 8 1 [RV.tmp 3] Ie:=fi Tryz.f165 [2] an []
def Ix:C:=
 (v6 [O1 4 (.box 0 26) 0,ON 8 (.nilo 1 1 3) [],vU 9 0] ((v6 [O1 11 (.load (some 4)) 4,MV 12 1,MV 13 2,ON 14 (.call 17 true) [.t 11,.t 12,.t 13],MV 10 14] (v6 [MV 15 10,vV 16 .neq
 15 0] (v7 16 (wa [MV 17 10,ON 8 (.nilo 1 1 3) [],MV 9 17])))).seq ((v6 [MV 18 3,vV 19 .lss 18 0,MV 20 19,vY 21 20 3,vY 22 20 2,vW 23 20 .len 22,vX 24 20 (.bin .geq) 21 23,PT 25
 20 24] (v7 25 (wa [ON 8 (.nilo 1 1 3) [],vU 9 2]))).seq (wa [O1 26 (.load (some 4)) 4,MV 27 1,MV 28 2,MV 29 3,ON 30 (.call 74 true) [.t 26,.t 27,.t 28,.t 29],MV 8 30,vU 9 0]))))
theorem Xd:qN Tryz.prog 19 31 2 [RV.tmp 8,RV.tmp 9] Ix:=fi Tryz.f19 [4,8] an []
def qbt:C:=
 (v6 [vU 4 0,vU 5 0] ((v6 [MV 6 1,vV 7 .lss 6 0,MV 8 7,vY 9 8 1,vY 10 8 0,vW 11 8 .len 10,vX 12 8 (.bin .geq) 9 11,PT 13 8 12] (v7 13 (wa [vU 4 0,vU 5 2]))).seq (wa [MV 14 0,MV
 15 1,O2 16 (.idxA 7) 14 15,vT 17 3 16,LD 18 17,MV 4 18,vU 5 0])))
theorem Eb:qN Tryz.prog 18 19 0 [RV.tmp 4,RV.tmp 5] qbt:=fi Tryz.f18 [] an []
def La:C:=
 (v6 [O1 4 (.box 0 26) 0,vU 8 0,vU 9 0,vU 10 0] ((v6 [O1 18 (.load (some 4)) 4,MV 19 1,MV 20 2,ON 21 (.call 17 true) [.t 18,.t 19,.t 20],MV 11 21] (v6 [MV 22 11,vV 23 .neq 22 0]
 (v7 23 (wa [MV 24 11,vU 8 0,vU 9 0,MV 10 24])))).seq ((v6 [MV 25 3,vV 26 .lss 25 0,MV 27 26,vY 28 27 3,wh 29 27 1 4,wi 30 27 29,vW 31 27 .len 30,vX 32 27 (.bin .geq) 28 31,PT
 33 27 32] (v7 33 (wa [vU 8 0,vU 9 0,vU 10 2]))).seq (v6 [vU 12 0] ((v6 [MV 34 1,O1 35 .len 34,vU 36 0] (C.block 0 (v6 [BI 37 .lss 36 35] ((v8 37 0).seq ((C.block 1 (v6 [MV 38
 36,MV 13 38] (v6 [MV 40 1,MV 41 13,O2 42 (.idxA 3) 40 41,O1 43 (.load (some 3)) 42,MV 44 3,O2 45 (.call 59 true) 43 44,MV 39 45,O1 46 (.ext 0) 39,O1 47 (.ext 1) 39,MV 14 46,MV
 15 47] (v6 [O1 49 (.load (some 4)) 4,MV 50 1,MV 51 2,MV 52 13,ON 53 (.call 52 true) [.t 49,.t 50,.t 51,.t 52],MV 48 53,O1 54 (.ext 0) 48,O1 55 (.ext 1) 48,MV 16 54,MV 17 55]
 (v6 [MV 56 1,MV 57 13,O2 58 (.idxA 3) 56 57,vT 59 2 58,LD 60 59,MV 61 14,O2 62 (.idxA 2) 60 61,vT 63 0 62,LD 64 63,MV 65 16,O2 66 (.call 36 true) 64 65] (v7 66 (we 67
 12))))))).seq (wc [vV 69 .add 36 1,MV 36 69])))).loop)).seq (wa [MV 70 12,MV 71 1,O1 72 .len 71,MV 8 70,MV 9 72,vU 10 0]))))))
theorem Xf:qN Tryz.prog 38 73 1 [RV.tmp 8,RV.tmp 9,RV.tmp 10] La:=fi Tryz.f38 [4] an []
end
section
open Go Go.Proofs AF HY LN
namespace RC
theorem BV(b:List Wd)(k:Int): ∀n,(owG b k n).length<=n:=by
 intro n
 induction n with
 |zero=>exact nlr _
 |succ n ih=>
  unfold owG;rw[lap];split
  ·simp only[lco,lnl];omega
  ·simp only[lnl];omega
end RC
end
section
open Go Go.Proofs AF
def Eu:List Nat:= []
def HO:C:=
 (v6 [vU 6 0] (v6 [⟨some 7,none,.alloc 0 22 [.nl],[]⟩] (((C.wk.seq (wc [MV 10 1,MV 11 2,O2 12 (.call 123 true) 10 11])).seq (C.block 0 (C.range (.t 12) [13,14] (wc [⟨some
 9,none,.alloc 1 36 [.str [],i6 0,i6 0,i6 0,.bool false,.bool false,.str []],[]⟩,ST 7 9 14]) (C.block 1 (wc [LD 15 7,vT 16 0 9,LD 17 16,⟨some 18,none,.bslc 2 1 1 9 [.str []]
 [(0,1)],[.t 17]⟩,O2 19 (.app 3 1 9 16) 15 18,ST 1 7 19]))))).seq ((C.wk.seq (wc [MV 20 0,MV 21 2,O2 22 (.idxA 3) 20 21,vT 23 2 22,LD 24 23,O1 25 (.mkfn (Fn.func 165) 0) 7,O2 26
 (.call 102 true) 24 25,MV 6 26])).seq C.ret))))
theorem L2:qN Tryz.prog 122 27 4 [RV.tmp 6] HO:=fi Tryz.f122 [7,9,18,19] Eu [2,5]
end
section
open Go Go.Proofs AF
def Ew:List Nat:= [130]
def Lc:C:=
 (v6 [O1 4 (.box 0 26) 0,ON 8 (.nilo 1 1 3) []] (v6 [MV 13 2,MV 14 3,O2 15 (.idxA 7) 13 14,vT 16 2 15,LD 17 16,MV 9 17] ((v6 [MV 18 9,vV 19 .lss 18 0] (v7 19 (v6 [ON 10 (.nilo 2
 1 3) []] ((v6 [vT 20 1 4,LD 21 20,O1 22 .len 21,vU 23 0] (C.block 0 (v6 [BI 24 .lss 23 22] ((v8 24 0).seq ((C.block 1 (v6 [MV 25 23,MV 11 25] (wc [MV 26 10,MV 27 11,⟨some
 28,none,.bslc 3 1 1 3 [i6 0] [(0,1)],[.t 27]⟩,O2 29 (.app 4 1 3 8) 26 28,MV 10 29]))).seq (wc [vV 30 .add 23 1,MV 23 30])))).loop)).seq (wa [MV 31 10,MV 8 31]))))).seq ((v6 [MV
 32 1,MV 33 2,MV 34 9,ON 35 (.call 122 true) [.t 32,.t 33,.t 34],MV 12 35] (v6 [MV 36 12,vV 37 .geq 36 0] (v7 37 (wa [MV 38 1,MV 39 9,O2 40 (.idxA 3) 38 39,vT 41 2 40,LD 42
 41,MV 43 12,O2 44 (.idxA 2) 42 43,vT 45 1 44,LD 46 45,O1 47 (.call 130 false) 46,MV 8 47])))).seq (wa [ON 8 (.nilo 1 1 3) []])))))
theorem Xg:qN Tryz.prog 74 48 5 [RV.tmp 8] Lc:=fi Tryz.f74 [4,8,10,28,29] Ew []
end
section
open Go Go.Proofs AF HY LN
namespace RC
def wdX(b:List Wd)(k:Int)(n:Nat):List w7:=flG (inU b k) (λi=> [.int .i64 (i:Int),.agg (wdC (b.getD i default))]) n
theorem qgr(b:List Wd)(k:Int)(h:w6):ACalls Tryz.prog 123 [zV b,.int .i64 k] h (.fn (.func 166) [] [.ip [zV b],.ip [.int .i64 k]]) h:=by
 refine acO L6 ?_;simp (disch:=omega) only[HQ,zV,go_sem]
 repeat' first|exact wj|fail
theorem itW(b:List Wd)(k:Int)(hn:b.length<=1000000000):tV Tryz.prog 166 [.ip [zV b],.ip [.int .i64 k]] (wdX b k b.length):=by
 intro h ts LI S E hS hE body start hts;refine acQ MO ?_;simp (disch:=omega) only[If,zV,go_sem]
 repeat' first|with_reducible apply aiA|exact clz|fail
 obtain⟨p,hp⟩:=wD (inU b k)
 obtain⟨g,hg⟩: ∃g:Nat->w7,g=λi=> [.int .i64 (i:Int),.agg (wdC (b.getD i default))]:=⟨_,rfl⟩
 have hX:wdX b k b.length=flG p g b.length:=by rw[hp,hg];rfl
 refine qp (T:=λi:Nat×w6×AObj=>zw 25 [(0,.yld h.length),(2,.ip [.int .i64 k]),(6,zV b),(7,.int .i64 b.length),(8,.int .i64 i.1)])
  (H:=λi=>i.2.1++ [.lp .ready ts LI]++ [i.2.2])
  (inv:=λi=>i.1<=b.length∧S (flG p g i.1).length i.2.1∧qK [i.2.2] 0=true) (m:=λi=>b.length-i.1) (0,h,.emp 0) ⟨nzl _,start,rfl⟩ (Wk.temps ?_) ?_
 ·(simp only[zV,go_sem,qg,qc,qa,qf];try exact wr)
 rintro⟨i,hh,O⟩ ⟨i1,i2,i3⟩ K hK;simp only at i1 i2 i3 hK;obtain⟨hlen,hlow⟩:=hS _ _ i2;have hb:(h++ [AObj.lp LS.ready ts LI]).length=(hh++ [AObj.lp LS.ready ts LI]).length:=by simp[hlen]
 rw[hb];have i3': ∀m,qK (O::m) 0=true:=λ_=>i3
 by_cases hi:i<b.length
 ·have q0:((i:Int)<b.length)=True:=xv;have hst:flG p g (i+1)=flG p g i++if p i=true then [g i] else []:=rfl
  have hpi:p i=decide ((b.getD i default).unit=k):=by rw[hp];rfl
  have hgi:g i= [.int .i64 (i:Int),.agg (wdC (b.getD i default))]:=by rw[hg]
  have hat:=λhpp=>LV (p:=p) (g:=g) (i:=i) hpp hi
  obtain⟨w,hw⟩:=wD (b.getD i default)
  have ew:=hw.symm;rw[ew]at hpi hgi
  by_cases gz:w.unit=k
  ·have q1:(w.unit=k)=True:=eqt gz;rw[dqt gz]at hpi;rw[hpi,ipo rfl]at hst;obtain⟨hdl,hxx⟩:=hat hpi;rw[hgi]at hxx;have hdl':(flG p g i).length<(wdX b k b.length).length:=by rw[hX];exact hdl
   have hxx':(wdX b k b.length)[(flG p g i).length]= [.int .i64 (i:Int),.agg (wdC w)]:=by simp only[hX];exact hxx
   have hb':=λO'=>body (flG p g i).length hh [O'] hdl' i2
   rw[hxx']at hb';have hlst:(flG p g (i+1)).length=(flG p g i).length+1:=by rw[hst];simp
   simp (disch:=omega) only[zV,i3',q0,ew,wdC,q1,go_sem]
   repeat' first|with_reducible apply aiA|exact clz|fail
   ·exact⟨.ready,ts,LI,by rw[List.append_assoc];exact kT hlen⟩
   ·rw[List.append_assoc];refine kf.mono ?_ (hb' _);rintro v h' ⟨hh',⟨rfl,hn,rfl⟩|⟨st,rfl,hs',rfl⟩⟩
    ·simp (disch:=omega) only[go_sem];refine hK _ _ (i+1,hh',.mem (qn (some O)+1) 36 (wdC w)) ⟨hi,by simp only;rw[hlst];exact hn,rfl⟩ (by simp only;omega) ?_;simp only[List.append_assoc];refine Wk.temps ?_
     (simp only[zV,wdC,go_sem,qg,qc,qa,qf];try exact wr)
    ·simp (disch:=omega) only[go_sem];obtain⟨r1,r2⟩:=(hE _ _ hs').ret (L:=LI) st hts;have eO: ∀O',hh'++AObj.lp st ts LI:: [O']=(hh'++ [AObj.lp st ts LI])++ [O']:=λ_=>by simp
     rw[eO];exact wG trivial r1 r2 ⟨_,.inr ⟨st,hs',rfl⟩⟩ (qi)
  ·have q1:(w.unit=k)=False:=eqf gz;rw[dqf gz]at hpi;rw[hpi,ine (by simp),lan]at hst;simp (disch:=omega) only[zV,i3',q0,ew,wdC,q1,go_sem]
   repeat' first|with_reducible apply aiA|exact clz|fail
   refine hK _ _ (i+1,hh,.mem (qn (some O)+1) 36 (wdC w)) ⟨hi,by simp only;rw[hst];exact i2,rfl⟩ (by simp only;omega) ?_;simp only;refine Wk.temps ?_
   (simp only[zV,wdC,go_sem,qg,qc,qa,qf];try exact wr)
 ·have e:i=b.length:=by omega
  subst e;have q0:((b.length:Int)<b.length)=False:=xD;simp (disch:=omega) only[zV,i3',q0,go_sem];obtain⟨r1,r2⟩:=(hS _ _ i2).ret (L:=LI) .ready hts;exact zW trivial r1 r2 ⟨hh,.inl ⟨by rw[hX];exact i2,rfl⟩⟩ (qi)
theorem GO(b:List Wd)(k:Int): ∀n,n<=b.length->(wdX b k n).length=(owG b k n).length∧ ∀i (hi:i<(wdX b k n).length),∃(j:Nat) (w:Wd),(wdX b k n)[i]= [.int .i64 (j:Int),.agg (wdC w)]∧(owG b k n)[i]? =some w.text∧j<n∧w=b.getD j default:=by
 intro n hn;have hs:owG b k n=flG (inU b k) (λi=>(b.getD i default).text) n:=by
  clear hn
  induction n with
  |zero=>rfl
  |succ n ih=>
   unfold owG flG;rw[ih];congr 1;unfold inU
   by_cases g:(b.getD n default).unit=k
   ·rw[ipo g,ipo (dqt g)]
   ·rw[ine g,ine (by simpa using g)]
 rw[hs];refine⟨QW _ _ _ _,λi hi=> ?_⟩;obtain⟨r,r1,r2,r3,r4⟩:=LW (p:=inU b k) (g:=λi=>([.int .i64 (i:Int),.agg (wdC (b.getD i default))]:w7)) (k:=λi=>(b.getD i default).text) (n:=n) (i:=i) hi;exact⟨r,b.getD r default,r3,r4,r1,rfl⟩
def brK(l:List Un)(b:List Wd)(k:Nat):Int:=yM (λr=>decide (((l.getD k default).rds.getD r default).words=owG b (k:Int) b.length)) (l.getD k default).rds.length 0
theorem qfQ(r:Rd)(own:List Str)(h:w6)(h1:r.words.length<=1000000000)(h2:own.length<=1000000000):ACalls Tryz.prog 165 [.agg (rdC r),.ip [strs own]] h (.bool (decide (r.words=own))) h:=by
 have c1:=λh=>qbx r.words own h h1 h2
 unfold strs at c1;refine acO MN ?_;simp (disch:=omega) only[Ie,rdC,strs,go_sem]
 repeat' first|(refine cA (c1 _) flk ?_;simp (disch:=omega) only[go_sem])|exact wj|with_reducible apply aiA|exact clz|fail
theorem qc3(L:List Rd)(own:List Str)(k v:Nat)(h:w6)(hk:qv k h=some (.mem v 22 [strs own]))(hl:L.length<=1000000000)(hw: ∀j,(L.getD j default).words.length<=1000000000)(ho:own.length<=1000000000):
  ACalls Tryz.prog 102 [j6 L,.fn (.func 165) [] [.op k v 0]] h (.int .i64 (yM (λr=>decide ((L.getD r default).words=own)) L.length 0)) h:=by
 have hc:=qL hk;unfold j6;refine cC Q8 L.length (λj=>rdC (L.getD j default)) (λj=> .agg (rdC (L.getD j default))) _ [] [.op k v 0] _ h (λi _=>⟨rfl,by simp[j0,rdC],rfl,rfl,rfl⟩) (λi _=> ?_) om;refine ACalls.borrow ?_ rfl;have e:([AV.agg (rdC (L.getD i default))]++ [AV.op k v 0]).map (rei (λ_=>true) h 8)= [.agg (rdC (L.getD i default)),.ip [strs own]]:=by
  simp only[lca,lna,List.map_cons,List.map_nil,rei_op,if_true,hc,ipOf_some,List.drop_zero,rei_agg];rfl
 rw[lna,e];exact qfQ _ own _ (hw i) ho
theorem EL(w:Wd)(n v:Nat)(ty:TypeId):lowO n (.mem v ty (wdC w)):=by
 intro c hc;simp only[wdC,List.mem_cons,List.not_mem_nil,or_false]at hc;rcases hc with rfl|rfl|rfl|rfl|rfl|rfl|rfl<;>rfl
theorem XN(s:Str)(n v:Nat)(ty:TypeId):lowO n (.mem v ty [.str s]):=by
 intro c hc;rw[List.mem_singleton]at hc;rw[hc];rfl
theorem Py(l:List Un)(b:List Wd)(k:Nat)(h:w6)(hu:bo l)(hb:b.length<=1000000)(hk:k<l.length):ACalls Tryz.prog 122 [zf l,zV b,.int .i64 (k:Int)] h (.int .i64 (brK l b k)) h:=by
 have c108:=λh=>qgr b (k:Int) h
 have hol:=BV b (k:Int) b.length;obtain⟨hxl,hxg⟩:=GO b (k:Int) b.length (nlr _);have hbr:brK l b k=yM (λr=>decide (((l.getD k default).rds.getD r default).words=owG b (k:Int) b.length)) (l.getD k default).rds.length 0:=rfl;obtain⟨W,hW⟩:=wD (owG b (k:Int) b.length)
 rw[<-hW]at hxl hol;simp only[<-hW]at hxg hbr;have zu:zf l= .sl l.length λi=>unC (l.getD i default):=rfl
 refine acO L2 ?_;simp (disch:=omega) only[HO,go_sem];refine⟨_,_,Wk.ownNil (j:=h.length) (i:=0) (k:=h.length+3) (v:=1) (ty:=22) (cs:= [.nl]) (ve:=0) (sz:=1) ?m1 rfl ?m2,?_⟩
 case m1=>simp only[go_sem]
 case m2=>simp only[go_sem]
 simp (disch:=omega) only[List.set_cons_zero,go_sem]
 repeat' first|(refine cA (c108 _) flk ?_;simp (disch:=omega) only[go_sem])
 refine zJ (xs:=wdX b (k:Int) b.length) (itW b (k:Int) om) ?e0
  (S:=λi hh=> ∃w O1 O2,qK [O1] 0=true∧qK [O2] 0=true∧(∀n,lowO n O1)∧(∀n,lowO n O2)∧hh=h++ [.mem 1 22 [.osl (h.length+3) w 1 0 i],O1,O2,zE w 9 (kc (W.take i))])
  (E:=λ_ _=>False) ?e1 (λ_ _ h=>h.elim) ?e2 ?e3 ?e4 ?e5 (λ_ _ h=>h.elim)
 case e0=>
  intro x hx;obtain⟨i,hi,e⟩:=List.getElem_of_mem hx;obtain⟨j,w,e2,_⟩:=hxg i hi;rw[<-e,e2];rfl
 case e1=>
  rintro i hh ⟨w,O1,O2,_,_,l1,l2,rfl⟩;refine LowI.app rfl (λo ho=> ?_);simp only[List.mem_cons,List.not_mem_nil,or_false]at ho;rcases ho with rfl|rfl|rfl|rfl
  ·right;constructor<;>(intro c hc;simp only[List.mem_cons,List.not_mem_nil,or_false]at hc;rcases hc with rfl;simp[ze])
  ·right;exact⟨l1 _,l1 _⟩
  ·right;exact⟨l2 _,l2 _⟩
  ·right;exact⟨ju (pK _ _),ju (pK _ _)⟩
 case e2=>exact⟨0,.emp 0,.emp 0,rfl,rfl,λ_=>trivial,λ_=>trivial,rfl⟩
 case e3=>
  have lu: ∀n,ze n (zf l)=true:=λ_=>rfl
  have lw: ∀n,ze n (zV b)=true:=λ_=>rfl
  simp[ze,ze.lowVs,lu,lw]
  try omega
 case e4=>
  rintro i hh tl LI TS hi ⟨w,O1,O2,p1,p2,l1,l2,rfl⟩ hlen K4 K5 hK4 hN hR' hX;obtain⟨j,wd,e2,e3,_,_⟩:=hxg i hi;rw[e2];rw[hxl]at hi;have p1': ∀m,qK (O1::m) 0=true:=λ_=>p1
  have p2': ∀m,qK (O2::m) 0=true:=λ_=>p2
  have hTk:W.take (i+1)=W.take i++ [wd.text]:=by rw[List.take_add_one,e3];rfl
  have hTl:(W.take i).length=i:=by rw[List.length_take];omega
  have eVl:=wF (W.take i);rw[hTl]at eVl;have eVk:List.take i (kc (W.take i))=kc (W.take i):=ltl om;have eVn:kc (W.take (i+1))=kc (W.take i)++ [.str wd.text]:=by rw[hTk,pJ];rfl
  simp only[kA];simp (disch:=omega) only[List.append_assoc,wdC,p1',go_sem];refine hK4 _ _ (h++ [.mem 1 22 [.osl (h.length+3) w 1 0 i],.mem (qn (some O1)+1) 36 (wdC wd),O2,zE w 9 (kc (W.take i))]) (by simp[wdC]) (by simp) ?_;simp (disch:=omega) only[List.append_assoc,wdC,p2',eVl,eVk,Nat.mul_one,go_sem]
  repeat' first|with_reducible apply aiA|exact clz|fail
  refine hN _ _ (h++ [.mem 1 22 [.osl (h.length+3) (w+1) 1 0 (i+1)],.mem (qn (some O1)+1) 36 (wdC wd),.mem (qn (some O2)+1) 9 [.str wd.text],zE (w+1) 9 (kc (W.take (i+1)))]) (by rw[eVn,List.append_assoc];rfl) (by simp)
   ⟨w+1,_,_,rfl,rfl,λn=>EL _ _ _ _,λn=>XN _ _ _ _,rfl⟩
 case e5=>
  rintro hh ⟨w,O1,O2,p1,p2,l1,l2,rfl⟩;rw[hxl,List.take_length];simp (disch:=omega) only[go_sem];refine⟨_,_,Wk.fzCell (j:=h.length) (k:=h.length+3) (i:=0) (v:=1) (ty:=22) (cs:= [.osl (h.length+3) w 1 0 W.length]) (c:= .osl (h.length+3) w 1 0 W.length) (c':=strs W) ?n1 rfl ?n2 om ?n3,?_⟩
  case n1=>simp only[go_sem]
  case n2=>simp only[go_sem]
  case n3=>
   rw[Xr,getO_app];exact y5 (λ_=>rfl) rfl
  have c127:=λH hk=>qc3 (l.getD k default).rds W h.length 1 H hk (hu.rd k) (hu.wd k) om
  rw[<-hbr]at c127;have k1:((k:Int)<l.length)=True:=xv;have k0:(0<=(k:Int))=True:=xv;obtain⟨u,hux⟩:=wD (l.getD k default)
  have eu:=hux.symm;simp only[eu]at c127;simp (disch:=omega) only[List.set_cons_zero,zu,unC,k0,k1,eu,go_sem]
  repeat' first|with_reducible apply aiA|exact clz|fail
  refine cA (c127 _ ?ka) (by exact flk) ?_
  case ka=>simp only[go_sem]
  simp (disch:=omega) only[go_sem]
  repeat' first|exact wj|fail
theorem qeJ(s:Str)(h:w6)(hs:s.length<=1000000000):ACalls Tryz.prog 193 [.str s] h (.bool (ZL s)) h:=by
 have c1:=λh=>t53 s h hs
 unfold ZL
 by_cases g:s= []
 ·subst g;rw[dqt rfl,Bool.true_or];refine acO Bi ?_;simp (disch:=omega) only[C4,go_sem]
  repeat' first|(refine qj ( .bool false) ?_;simp (disch:=omega) only[go_sem])|exact wm|fail
 ·have k1:(s= [])=False:=eqf g;rw[dqf g,Bool.false_or];refine acO Bi ?_;simp (disch:=omega) only[C4,k1,go_sem]
  repeat' first|(refine cG (λe=>c1 _) flk ?_;simp (disch:=omega) only[go_sem])|exact wm|fail
theorem EE(c:UInt8):xO c=(decide (kind c=1)||(decide (kind c=2)||(decide (kind c=3)||decide (kind c=4)))):=by
 unfold xO;cases decide (kind c=1)<;>cases decide (kind c=2)<;>cases decide (kind c=3)<;>rfl
theorem qgm(c:UInt8)(h:w6):ACalls Tryz.prog 192 [.int .u8 (c.toNat:Int)] h (.bool (xO c)) h:=by
 have c5:=λh=>de c h
 rw[EE];obtain⟨k,hk⟩:=wD (kind c)
 rw[<-hk]at c5 ⊢
 by_cases g1:k=1
 ·have q1:(k=1)=True:=eqt g1;rw[dqt g1,Bool.true_or];refine acO oQ ?_;simp (disch:=omega) only[Qa,go_sem]
  repeat' first|(refine cA (c5 _) flk ?_;simp (disch:=omega) only[q1,go_sem])|exact wm|fail
 have q1:(k=1)=False:=eqf g1;rw[dqf g1,Bool.false_or]
 by_cases g2:k=2
 ·have q2:(k=2)=True:=eqt g2;rw[dqt g2,Bool.true_or];refine acO oQ ?_;simp (disch:=omega) only[Qa,go_sem]
  repeat' first|(refine cA (c5 _) flk ?_;simp (disch:=omega) only[q1,q2,go_sem])|exact wm|fail
 have q2:(k=2)=False:=eqf g2;rw[dqf g2,Bool.false_or]
 by_cases g3:k=3
 ·have q3:(k=3)=True:=eqt g3;rw[dqt g3,Bool.true_or];refine acO oQ ?_;simp (disch:=omega) only[Qa,go_sem]
  repeat' first|(refine cA (c5 _) flk ?_;simp (disch:=omega) only[q1,q2,q3,go_sem])|exact wm|fail
 have q3:(k=3)=False:=eqf g3;rw[dqf g3,Bool.false_or];refine acO oQ ?_;simp (disch:=omega) only[Qa,go_sem]
 repeat' first|(refine cA (c5 _) flk ?_;simp (disch:=omega) only[q1,q2,q3,go_sem])|exact wm|fail
theorem qcf: ∀f:Nat,f<32->decide ((f:Int)/2%2=1)=f.testBit 1:=by decide+kernel
theorem qcg: ∀f:Nat,f<32->decide ((f:Int)/8%2=1)=f.testBit 3:=by decide+kernel
theorem tkR(t:Tk)(h:w6)(hz:AP t)(hp:kt SG h):ACalls Tryz.prog 143 [.agg (tkC t)] h (.int .i64 (tkE t)) h:=by
 obtain⟨R,hR⟩:=wD (tkE t)
 rw[<-hR];unfold tkE at hR
 by_cases g1:t.flags<0
 ·have k1:(t.flags<0)=True:=eqt g1;rw[ipo (.inl g1)]at hR;rw[hR];refine acO jj ?_;simp (disch:=omega) only[kg,tkC,go_sem]
  repeat' first|exact wj|(with_reducible first|intro _|apply aiA)|exact clz|fail
 have k1:(t.flags<0)=False:=eqf g1
 by_cases g2:31<t.flags
 ·have k2:((31:Int)<t.flags)=True:=eqt g2;rw[ipo (.inr g2)]at hR;rw[hR];refine acO jj ?_;simp (disch:=omega) only[kg,tkC,go_sem]
  repeat' first|exact wj|(with_reducible first|intro _|apply aiA)|exact clz|fail
 have k2:((31:Int)<t.flags)=False:=eqf g2;rw[ine om]at hR;obtain⟨f,hf⟩: ∃f:Nat,t.flags=(f:Int):=⟨t.flags.toNat,om⟩
 have hf2:f<32:=by omega
 have eg:rR t.flags=f.testBit 1:=by unfold rR;rw[hf,itn]
 have ek:mkB t.flags=f.testBit 3:=by unfold mkB;rw[hf,itn]
 have dA:=λh=>qeF t.text t.norm t.page t.line t.flags 2 t.name h om om (by decide)
 have dB:=λh=>qeF t.text t.norm t.page t.line t.flags 8 t.name h om om (by decide)
 have cP:=λl=>qeJ t.page (h++l) hz.pg
 have cM:=λl=>qeJ t.name (h++l) hz.na
 have hG:=λl=>qfv t.text (h++l) hz.tx (hp.app l)
 have cW:=λl=>t93 t.text (h++l) hz.tx
 have cK:=λh=>de (ch t.text 0) h
 have e0:(t.text[0]?).getD 0=ch t.text 0:=by simp[ch,gdqA]
 unfold txB at hR;rw[eg,ek]at hR;rw[hf]at dA dB k1 k2;rw[qcf f hf2]at dA;rw[qcg f hf2]at dB;obtain⟨bp,hbp⟩: ∃b,b=ZL t.page:=⟨_,rfl⟩
 obtain⟨bm,hbm⟩: ∃b,b=ZL t.name:=⟨_,rfl⟩
 obtain⟨bg,hbg⟩: ∃b,b=iU t.text:=⟨_,rfl⟩
 obtain⟨bw,hbw⟩: ∃b,b=kU t.text:=⟨_,rfl⟩
 rw[<-hbp,<-hbm,<-hbg,<-hbw]at hR;simp only[<-hbp]at cP;simp only[<-hbm]at cM;simp only[<-hbg]at hG;simp only[<-hbw]at cW;have eM:Hh t.text=(decide (t.text.length=1)&&(decide (kind (ch t.text 0)=5)||decide (kind (ch t.text 0)=4))):=rfl;have eN:Hi t.norm=(decide (t.norm≠ [])&&(decide (t.norm.length<=64)&&(List.range t.norm.length).all λi=>xO (ch t.norm i))):=rfl;rw[eM,eN]at hR;obtain⟨kd,hkd⟩:=wD (kind (ch t.text 0))
 rw[<-hkd]at hR cK;have q2:(t.text.length=1)=True->((0:Int)<t.text.length)=True:=λe=>eqt (by have:=of_eq_true e;omega)
 cases ga:f.testBit 1<;>cases gb:f.testBit 3<;>rw[ga]at hR dA<;>rw[gb]at hR dB<;>simp only[Bool.false_eq_true,if_true,if_false,and_true,and_false,and_self]at hR
 ·cases bw with
  |false=>
   rw[Bool.false_and,ipo rfl]at hR;rw[hR];refine acO jj ?_;simp (disch:=omega) only[kg,tkC,hf,k1,k2,go_sem]
   repeat' first|((first|refine cA (dA _) ?_ ?_|refine cA (dB _) ?_ ?_|refine cA (cW _) ?_ ?_);exact flk;simp (disch:=omega) only[go_sem])|exact wj|fail
  |true=>
  rw[Bool.true_and]at hR
  by_cases g5:t.norm= []
  ·have k5:(t.norm= [])=True:=eqt g5;rw[dqf (λhc=>hc g5),Bool.false_and,ipo rfl]at hR;rw[hR];refine acO jj ?_;simp (disch:=omega) only[kg,tkC,hf,k1,k2,go_sem]
   repeat' first|((first|refine cA (dA _) ?_ ?_|refine cA (dB _) ?_ ?_|refine cA (cW _) ?_ ?_);exact flk;simp (disch:=omega) only[k5,go_sem])|exact wj|fail
  have k5:(t.norm= [])=False:=eqf g5;rw[dqt g5,Bool.true_and]at hR
  by_cases g6:t.norm.length<=64
  case neg=>
   have k6:((64:Int)<t.norm.length)=True:=xv;rw[dqf g6,Bool.false_and,ipo rfl]at hR;rw[hR];refine acO jj ?_;simp (disch:=omega) only[kg,tkC,hf,k1,k2,go_sem]
   repeat' first|((first|refine cA (dA _) ?_ ?_|refine cA (dB _) ?_ ?_|refine cA (cW _) ?_ ?_);exact flk;simp (disch:=omega) only[k5,k6,go_sem])|exact wj|fail
  have k6:((64:Int)<t.norm.length)=False:=xD;rw[dqt g6,Bool.true_and]at hR;refine acO jj ?_;simp (disch:=omega) only[kg,tkC,hf,k1,k2,go_sem]
  repeat' first|((first|refine cA (dA _) ?_ ?_|refine cA (dB _) ?_ ?_|refine cA (cW _) ?_ ?_);exact flk;simp (disch:=omega) only[k5,k6,go_sem])
  refine qp (T:=λi:Nat=>zw 105 [(1,.op h.length 1 0),(5,.int .i64 i)]) (H:=λ_=>h++ [.mem 1 92 [.str t.text,.str t.norm,.str t.page,.int .i64 t.line,.int .i64 (f:Int),.str t.name]]) (inv:=λi=>i<=t.norm.length∧ ∀j,j<i->xO (ch t.norm j)=true) (m:=λi=>t.norm.length-i) 0 ⟨nzl _,λj hj=>absurd hj (nnz j)⟩ (Wk.temps ?_) ?_
  ·(simp only[go_sem,qg,qc,qa,qf];try exact wr)
  rintro i ⟨i1,i2⟩ K hK
  by_cases hi:i<t.norm.length
  ·have r1:((i:Int)<t.norm.length)=True:=xv;have r0:(0<=(i:Int))=True:=xv;have ei:(t.norm[i]?).getD 0=ch t.norm i:=by unfold ch;exact (gdqA).symm
   have cV:=λh=>qgm (ch t.norm i) h
   cases gi:xO (ch t.norm i)with
   |false=>
    rw[gi]at cV;have hall:((List.range t.norm.length).all λi=>xO (ch t.norm i))=false:=by
     rw[List.all_eq_false];exact⟨i,by simpa using hi,by rw[gi];simp⟩
    rw[hall,ipo rfl]at hR;rw[hR];simp (disch:=omega) only[r0,r1,ei,go_sem]
    repeat' first|(refine cA (cV _) flk ?_;simp (disch:=omega) only[go_sem])|exact wj|fail
   |true=>
    rw[gi]at cV;simp (disch:=omega) only[r0,r1,ei,go_sem]
    repeat' first|(refine cA (cV _) flk ?_;simp (disch:=omega) only[go_sem])
    refine hK _ _ (i+1) ⟨hi,λj hj=> ?_⟩ om (Wk.temps ?_)
    ·by_cases e:j=i
     ·subst e;exact gi
     ·exact i2 j om
    ·(simp only[go_sem,qg,qc,qa,qf];try exact wr)
  have r1:((i:Int)<t.norm.length)=False:=xD;have hall:((List.range t.norm.length).all λi=>xO (ch t.norm i))=true:=by
   rw[List.all_eq_true];exact λj hj=>i2 j (by have:=List.mem_range.1 hj;omega)
  rw[hall,ine (by simp)]at hR;clear hK
  by_cases g4:t.line<0
  ·have k4:(t.line<0)=True:=eqt g4;rw[ipo g4]at hR;rw[hR];simp (disch:=omega) only[r1,k4,go_sem]
   repeat' first|exact wj|fail
  have k4:(t.line<0)=False:=eqf g4;rw[ine g4]at hR;cases bp with
  |false=>
   rw[ipo (.inl rfl)]at hR;rw[hR];simp (disch:=omega) only[r1,k4,go_sem]
   repeat' first|(refine qj ( .bool false) ?_;simp (disch:=omega) only[go_sem])|(refine cA (cP _) flk ?_;simp (disch:=omega) only[go_sem])|exact wj|fail
  |true=>
  cases bm with
  |false=>
   rw[ipo (.inr rfl)]at hR;rw[hR];simp (disch:=omega) only[r1,k4,go_sem]
   repeat' first|((first|refine cA (cP _) ?_ ?_|refine cG (λe=>cM _) ?_ ?_);exact flk;simp (disch:=omega) only[go_sem])|exact wj|with_reducible apply aiA|exact clz|fail
  |true=>
  rw[ine (by simp)]at hR;rw[hR];simp (disch:=omega) only[r1,k4,go_sem]
  repeat' first|((first|refine cA (cP _) ?_ ?_|refine cG (λe=>cM _) ?_ ?_);exact flk;simp (disch:=omega) only[go_sem])|exact wj|with_reducible apply aiA|exact clz|fail
 ·by_cases g5:t.text.length=1
  case neg=>
   have k5:((t.text.length:Int)=1)=False:=xD;rw[dqf g5,Bool.false_and,Bool.false_and,ipo rfl]at hR;rw[hR];refine acO jj ?_;simp (disch:=omega) only[kg,tkC,hf,k1,k2,go_sem]
   repeat' first|(refine qj ( .int .i64 0) ?_;simp (disch:=omega) only[go_sem])|((first|refine cA (dA _) ?_ ?_|refine cA (dB _) ?_ ?_);exact flk;simp (disch:=omega) only[k5,go_sem])|exact wj|(with_reducible first|intro _|apply aiA)|exact clz|fail
  have k5:((t.text.length:Int)=1)=True:=xv;have k6:((0:Int)<t.text.length)=True:=xv;rw[dqt g5,Bool.true_and]at hR
  by_cases g50:kd=5
  ·have k50:(kd=5)=True:=eqt g50;rw[dqt g50,Bool.true_or,Bool.true_and]at hR
   by_cases g7:t.norm=t.text
   case neg=>
    have k7:(t.norm=t.text)=False:=eqf g7;rw[dqf g7,ipo rfl]at hR;rw[hR];refine acO jj ?_;simp (disch:=omega) only[kg,tkC,hf,k1,k2,false_imp_iff,true_imp_iff,go_sem]
    repeat' first|(refine qj ( .int .i64 0) ?_;simp (disch:=omega) only[false_and,false_imp_iff,true_imp_iff,k7,go_sem])|((first|refine cA (dA _) ?_ ?_|refine cA (dB _) ?_ ?_|refine cG (λe=>cK _) ?_ ?_);exact flk;simp (disch:=omega) only[k5,k6,e0,Int.toNat_zero,k50,false_and,false_imp_iff,true_imp_iff,go_sem])|exact wj|(with_reducible first|intro _|apply aiA)|exact clz|fail
   have k7:(t.norm=t.text)=True:=eqt g7;rw[dqt g7,ine (by simp)]at hR
   by_cases g4:t.line<0
   ·have k4:(t.line<0)=True:=eqt g4;rw[ipo g4]at hR;rw[hR];refine acO jj ?_;simp (disch:=omega) only[kg,tkC,hf,k1,k2,false_imp_iff,true_imp_iff,go_sem]
    repeat' first|(refine qj ( .int .i64 0) ?_;simp (disch:=omega) only[false_and,false_imp_iff,true_imp_iff,k7,k4,go_sem])|((first|refine cA (dA _) ?_ ?_|refine cA (dB _) ?_ ?_|refine cG (λe=>cK _) ?_ ?_);exact flk;simp (disch:=omega) only[k5,k6,e0,Int.toNat_zero,k50,false_and,false_imp_iff,true_imp_iff,go_sem])|exact wj|with_reducible apply aiA|exact clz|fail
   have k4:(t.line<0)=False:=eqf g4;rw[ine g4]at hR;cases bp with
   |false=>
    rw[ipo (.inl rfl)]at hR;rw[hR];refine acO jj ?_;simp (disch:=omega) only[kg,tkC,hf,k1,k2,false_imp_iff,true_imp_iff,go_sem]
    repeat' first|(refine qj ( .int .i64 0) ?_;simp (disch:=omega) only[false_and,false_imp_iff,true_imp_iff,k7,k4,go_sem])|((first|refine cA (dA _) ?_ ?_|refine cA (dB _) ?_ ?_|refine cG (λe=>cK _) ?_ ?_|refine cA (cP _) ?_ ?_);exact flk;simp (disch:=omega) only[k5,k6,e0,Int.toNat_zero,k50,false_and,false_imp_iff,true_imp_iff,go_sem])|exact wj|with_reducible apply aiA|exact clz|fail
   |true=>
   cases bm with
   |false=>
    rw[ipo (.inr rfl)]at hR;rw[hR];refine acO jj ?_;simp (disch:=omega) only[kg,tkC,hf,k1,k2,false_imp_iff,true_imp_iff,go_sem]
    repeat' first|(refine qj ( .int .i64 0) ?_;simp (disch:=omega) only[false_and,false_imp_iff,true_imp_iff,k7,k4,go_sem])|((first|refine cA (dA _) ?_ ?_|refine cA (dB _) ?_ ?_|refine cG (λe=>cK _) ?_ ?_|refine cA (cP _) ?_ ?_|refine cG (λe=>cM _) ?_ ?_);exact flk;simp (disch:=omega) only[k5,k6,e0,Int.toNat_zero,k50,false_and,false_imp_iff,true_imp_iff,go_sem])|exact wj|with_reducible apply aiA|exact clz|fail
   |true=>
   rw[ine (by simp)]at hR;rw[hR];refine acO jj ?_;simp (disch:=omega) only[kg,tkC,hf,k1,k2,false_imp_iff,true_imp_iff,go_sem]
   repeat' first|(refine qj ( .int .i64 0) ?_;simp (disch:=omega) only[false_and,false_imp_iff,true_imp_iff,k7,k4,go_sem])|((first|refine cA (dA _) ?_ ?_|refine cA (dB _) ?_ ?_|refine cG (λe=>cK _) ?_ ?_|refine cA (cP _) ?_ ?_|refine cG (λe=>cM _) ?_ ?_);exact flk;simp (disch:=omega) only[k5,k6,e0,Int.toNat_zero,k50,false_and,false_imp_iff,true_imp_iff,go_sem])|exact wj|with_reducible apply aiA|exact clz|fail
  have k50:(kd=5)=False:=eqf g50;rw[dqf g50,Bool.false_or]at hR
  by_cases g40:kd=4
  ·have k40:(kd=4)=True:=eqt g40;rw[dqt g40,Bool.true_and]at hR
   by_cases g7:t.norm=t.text
   case neg=>
    have k7:(t.norm=t.text)=False:=eqf g7;rw[dqf g7,ipo rfl]at hR;rw[hR];refine acO jj ?_;simp (disch:=omega) only[kg,tkC,hf,k1,k2,go_sem]
    repeat' first|((first|refine cA (dA _) ?_ ?_|refine cA (dB _) ?_ ?_|refine cG (λe=>cK _) ?_ ?_);exact flk;simp (disch:=omega) only[k5,k6,e0,Int.toNat_zero,k50,k40,k7,go_sem])|exact wj|with_reducible apply aiA|exact clz|fail
   have k7:(t.norm=t.text)=True:=eqt g7;rw[dqt g7,ine (by simp)]at hR
   by_cases g4:t.line<0
   ·have k4:(t.line<0)=True:=eqt g4;rw[ipo g4]at hR;rw[hR];refine acO jj ?_;simp (disch:=omega) only[kg,tkC,hf,k1,k2,go_sem]
    repeat' first|((first|refine cA (dA _) ?_ ?_|refine cA (dB _) ?_ ?_|refine cG (λe=>cK _) ?_ ?_);exact flk;simp (disch:=omega) only[k5,k6,e0,Int.toNat_zero,k50,k40,k7,k4,go_sem])|exact wj|with_reducible apply aiA|exact clz|fail
   have k4:(t.line<0)=False:=eqf g4;rw[ine g4]at hR;cases bp with
   |false=>
    rw[ipo (.inl rfl)]at hR;rw[hR];refine acO jj ?_;simp (disch:=omega) only[kg,tkC,hf,k1,k2,go_sem]
    repeat' first|(refine qj ( .bool false) ?_;simp (disch:=omega) only[go_sem])|((first|refine cA (dA _) ?_ ?_|refine cA (dB _) ?_ ?_|refine cG (λe=>cK _) ?_ ?_|refine cA (cP _) ?_ ?_);exact flk;simp (disch:=omega) only[k5,k6,e0,Int.toNat_zero,k50,k40,k7,k4,go_sem])|exact wj|with_reducible apply aiA|exact clz|fail
   |true=>
   cases bm with
   |false=>
    rw[ipo (.inr rfl)]at hR;rw[hR];refine acO jj ?_;simp (disch:=omega) only[kg,tkC,hf,k1,k2,go_sem]
    repeat' first|((first|refine cA (dA _) ?_ ?_|refine cA (dB _) ?_ ?_|refine cG (λe=>cK _) ?_ ?_|refine cA (cP _) ?_ ?_|refine cG (λe=>cM _) ?_ ?_);exact flk;simp (disch:=omega) only[k5,k6,e0,Int.toNat_zero,k50,k40,k7,k4,go_sem])|exact wj|with_reducible apply aiA|exact clz|fail
   |true=>
   rw[ine (by simp)]at hR;rw[hR];refine acO jj ?_;simp (disch:=omega) only[kg,tkC,hf,k1,k2,go_sem]
   repeat' first|((first|refine cA (dA _) ?_ ?_|refine cA (dB _) ?_ ?_|refine cG (λe=>cK _) ?_ ?_|refine cA (cP _) ?_ ?_|refine cG (λe=>cM _) ?_ ?_);exact flk;simp (disch:=omega) only[k5,k6,e0,Int.toNat_zero,k50,k40,k7,k4,go_sem])|exact wj|with_reducible apply aiA|exact clz|fail
  have k40:(kd=4)=False:=eqf g40;rw[dqf g40,Bool.false_and,ipo rfl]at hR;rw[hR];refine acO jj ?_;simp (disch:=omega) only[kg,tkC,hf,k1,k2,go_sem]
  repeat' first|((first|refine cA (dA _) ?_ ?_|refine cA (dB _) ?_ ?_|refine cG (λe=>cK _) ?_ ?_);exact flk;simp (disch:=omega) only[k5,k6,e0,Int.toNat_zero,k50,k40,go_sem])|exact wj|with_reducible apply aiA|exact clz|fail
 ·cases bg with
  |false=>
   rw[Bool.false_and,ipo rfl]at hR;rw[hR];refine acO jj ?_;simp (disch:=omega) only[kg,tkC,hf,k1,k2,go_sem]
   repeat' first|((first|refine cA (dA _) ?_ ?_|refine cA (dB _) ?_ ?_|refine cA (hG _) ?_ ?_);exact flk;simp (disch:=omega) only[go_sem])|exact wj|fail
  |true=>
  rw[Bool.true_and]at hR
  by_cases g7:t.norm=t.text
  case neg=>
   have k7:(t.norm=t.text)=False:=eqf g7;rw[dqf g7,ipo rfl]at hR;rw[hR];refine acO jj ?_;simp (disch:=omega) only[kg,tkC,hf,k1,k2,go_sem]
   repeat' first|((first|refine cA (dA _) ?_ ?_|refine cA (dB _) ?_ ?_|refine cA (hG _) ?_ ?_);exact flk;simp (disch:=omega) only[k7,go_sem])|exact wj|fail
  have k7:(t.norm=t.text)=True:=eqt g7;rw[dqt g7,ine (by simp)]at hR
  by_cases g4:t.line<0
  ·have k4:(t.line<0)=True:=eqt g4;rw[ipo g4]at hR;rw[hR];refine acO jj ?_;simp (disch:=omega) only[kg,tkC,hf,k1,k2,go_sem]
   repeat' first|((first|refine cA (dA _) ?_ ?_|refine cA (dB _) ?_ ?_|refine cA (hG _) ?_ ?_);exact flk;simp (disch:=omega) only[k7,k4,go_sem])|exact wj|fail
  have k4:(t.line<0)=False:=eqf g4;rw[ine g4]at hR;cases bp with
  |false=>
   rw[ipo (.inl rfl)]at hR;rw[hR];refine acO jj ?_;simp (disch:=omega) only[kg,tkC,hf,k1,k2,go_sem]
   repeat' first|(refine qj ( .bool false) ?_;simp (disch:=omega) only[go_sem])|((first|refine cA (dA _) ?_ ?_|refine cA (dB _) ?_ ?_|refine cA (hG _) ?_ ?_|refine cA (cP _) ?_ ?_);exact flk;simp (disch:=omega) only[k7,k4,go_sem])|exact wj|fail
  |true=>
  cases bm with
  |false=>
   rw[ipo (.inr rfl)]at hR;rw[hR];refine acO jj ?_;simp (disch:=omega) only[kg,tkC,hf,k1,k2,go_sem]
   repeat' first|((first|refine cA (dA _) ?_ ?_|refine cA (dB _) ?_ ?_|refine cA (hG _) ?_ ?_|refine cA (cP _) ?_ ?_|refine cG (λe=>cM _) ?_ ?_);exact flk;simp (disch:=omega) only[k7,k4,go_sem])|exact wj|with_reducible apply aiA|exact clz|fail
  |true=>
  rw[ine (by simp)]at hR;rw[hR];refine acO jj ?_;simp (disch:=omega) only[kg,tkC,hf,k1,k2,go_sem]
  repeat' first|((first|refine cA (dA _) ?_ ?_|refine cA (dB _) ?_ ?_|refine cA (hG _) ?_ ?_|refine cA (cP _) ?_ ?_|refine cG (λe=>cM _) ?_ ?_);exact flk;simp (disch:=omega) only[k7,k4,go_sem])|exact wj|with_reducible apply aiA|exact clz|fail
 ·rw[hR];refine acO jj ?_;simp (disch:=omega) only[kg,tkC,hf,k1,k2,go_sem]
  repeat' first|((first|refine cA (dA _) ?_ ?_|refine cA (dB _) ?_ ?_);exact flk;simp (disch:=omega) only[go_sem])|exact wj|fail
end RC
end
