import Derived.Test.YtgoandblgcjleaaGreatDoorK17
import Derived.Test.YtgoandblgcjleaaGreatDoorK14
import Derived.Test.YtgoandblgcjleaaGreatDoorK13
import Derived.Test.YtgoandblgcjleaaGreatDoorK3
import Derived.Test.YtgoandblgcjleaaGreatDoorK5
import Derived.Test.YtgoandblgcjleaaGreatDoorK8
import Derived.Test.YtgoandblgcjleaaGreatDoorProg
import Derived.Test.YtgoandblgcjleaaGreatDoorK11
import Derived.Test.YtgoandblgcjleaaGreatDoorK12
import Derived.Test.YtgoandblgcjleaaGreatDoorK15
import Derived.Test.YtgoandblgcjleaaGreatDoorK10
import Derived.Test.YtgoandblgcjleaaGreatDoorRows
import Derived.LaidLaws
set_option linter.all false
set_option linter.unusedSimpArgs false
set_option linter.unusedVariables false
set_option linter.unusedSectionVars false
set_option maxHeartbeats 128000000
set_option maxRecDepth 100000
section
open Go Go.Proofs AF HY LN
namespace RC
theorem qEg(n:Nat)(a:List Int)(h:List AObj)(hn:n≤64)(ha:a.length≤1000000000)(sa:qai 64 a=0)(hb: ∀x∈a,x<n):
  ACalls Tryz.prog 148 [.int .i64 n,ql a] h (.tup [ql (qT (fun k=> !decide ((k:Int)∈a)) n),.int .i64 0]) h:=by
 have c0:=fun h=>qtG a h ha sa
 unfold ql at c0;obtain⟨p,hp⟩: ∃p:Nat→Bool,p=fun k:Nat=> !decide ((k:Int)∈a):=⟨_,rfl⟩
 have ep: ∀k:Nat,p k= !decide ((k:Int)∈a):=fun k=>by rw[hp]
 rw[←hp];have k1:((n:Int)<0)=False:=eqf om;have k2:((64:Int)<n)=False:=eqf om;have rest: ∀T:List AV,True:=fun _=>trivial
 have hlast:0<a.length→a.getD (a.length-1) 0<n:=fun h0=>hb _ (by rw[gdqA,zp om];exact List.getElem_mem _)
 by_cases h0:0<a.length
 ·have k3:((0:Int)<a.length)=True:=eqt om;have hm:((a.length:Int)-1)=((a.length-1:Nat):Int):=by omega
  have m0:(0≤((a.length-1:Nat):Int))=True:=eqt om;have m1:(((a.length-1:Nat):Int)<a.length)=True:=eqt om;have hlast:=hlast h0;obtain⟨w,hw⟩: ∃w,w=a.getD (a.length-1) 0:=⟨_,rfl⟩
  have ew:=hw.symm;rw[ew]at hlast;have k4:((n:Int)≤w)=False:=eqf om;refine acO qrY ?_;simp (disch:=omega) only[qtd,ql,k1,k2,go_sem]
  repeat' first
   |(refine cA (c0 _) flk ?_;simp (disch:=omega) only[k3,hm,m0,m1,ew,k4,go_sem])
   |with_reducible apply aiA
  all_goals try exact clz
  have eM2:qS [AV.int .i64 0] 0=qp (qT p 0):=rfl;rw[eM2];refine qn (T:=fun i:Nat×Nat×AObj=>qI 45 [(0,.int .i64 n),(1,ql a),(6,.osl (h.length+1) i.2.1 1 0 (qT p i.1).length),(7,.int .i64 i.1)]) (H:=fun i=>h++ [.emp 1,.mem i.2.1 3 (qp (qT p i.1)),i.2.2,.emp 0])
   (inv:=fun i=>i.1≤n∧qC [i.2.2] 0=true) (m:=fun i=>n-i.1) (0,1,.emp 0) ⟨nzl _,rfl⟩ (Wk.temps ?_) ?_
  ·(simp only[ql,qT,List.range_zero,List.filter_nil,List.map_nil,lnl,go_sem,qj,qd,qa,qi];try (repeat' first|(with_reducible apply aiA)|(apply qh;omega)|(apply qg;rfl)|exact qk))
  rintro⟨k,v2,O⟩ ⟨j1,j2⟩ K2 hK2;simp only at j1 j2 hK2;have j2': ∀m,qC (O::m) 0=true:=fun _=>j2
  have hst2:=zH p k;have hln2:=qN p k;obtain⟨M,hM⟩: ∃M,M=qT p k:=⟨_,rfl⟩
  have eM:=hM.symm;have eC2:=qy M;rw[eM]at hst2 hln2
  by_cases hk:k<n
  ·have y1:((k:Int)<n)=True:=eqt om;have c1:=fun h=>qlV a k h ha
   have epk:=ep k;unfold ql at c1;have eT2:List.take M.length (qp M)=qp M:=ltl om;cases hb1:decide ((k:Int)∈a)with
   |false=>
    rw[hb1]at c1 epk;simp only[epk,Bool.not_false,if_true]at hst2;simp (disch:=omega) only[ql,y1,eM,go_sem]
    repeat' first
     |(refine cA (c1 _) flk ?_;simp (disch:=omega) only[eC2,eT2,j2',Nat.mul_one,go_sem])
     |with_reducible apply aiA
    all_goals try exact clz
    have eA:qp M++ [AV.int .i64 (k:Int)]=qp (M++ [(k:Int)]):=by rw[qR];rfl
    have eD:(AV.int .i64 (k:Int)::List.drop 1 (qS [AV.int .i64 0] 1))= [AV.int .i64 (k:Int)]:=rfl
    try rw[eD]
    rw[eA,←hst2];refine hK2 _ _ (k+1,v2+1,.mem (qr (some O)+1) 3 [.int .i64 (k:Int)]) ⟨hk,rfl⟩ (by simp only;omega) ?_;simp only[hst2,lap,lco,lnl];refine Wk.temps ?_
    (simp only[ql,go_sem,qj,qd,qa,qi];try (repeat' first|(with_reducible apply aiA)|(apply qh;omega)|(apply qg;rfl)|exact qk))
   |true=>
    rw[hb1]at c1 epk;simp only[epk,Bool.not_true,Bool.false_eq_true,if_false,lan]at hst2;simp (disch:=omega) only[ql,y1,eM,go_sem]
    repeat' first
     |(refine cA (c1 _) flk ?_;simp (disch:=omega) only[Nat.mul_one,go_sem])
    refine hK2 _ _ (k+1,v2,O) ⟨hk,j2⟩ (by simp only;omega) ?_;simp only[hst2];refine Wk.temps ?_
    (simp only[ql,go_sem,qj,qd,qa,qi];try (repeat' first|(with_reducible apply aiA)|(apply qh;omega)|(apply qg;rfl)|exact qk))
  have y1:((k:Int)<n)=False:=eqf om;obtain rfl:k=n:=by omega
  simp only[eM];simp (disch:=omega) only[ql,y1,go_sem]
  repeat' first
   |(apply qb;exact rvk;simp only[go_sem])
  rw[ipo om];refine qL ⟨zO _ (fun n=>rfl) rfl,qk,trivial⟩
 ·have k3:((0:Int)<a.length)=False:=eqf om;refine acO qrY ?_;simp (disch:=omega) only[qtd,ql,k1,k2,go_sem]
  repeat' first
   |(refine cA (c0 _) flk ?_;simp (disch:=omega) only[k3,go_sem])
   |(apply qb;exact rvk;simp only[go_sem])
   |with_reducible first|intro _|apply aiA
  all_goals try exact clz
  have eM2:qS [AV.int .i64 0] 0=qp (qT p 0):=rfl;rw[eM2];refine qn (T:=fun i:Nat×Nat×AObj=>qI 45 [(0,.int .i64 n),(1,ql a),(6,.osl (h.length+1) i.2.1 1 0 (qT p i.1).length),(7,.int .i64 i.1)]) (H:=fun i=>h++ [.emp 1,.mem i.2.1 3 (qp (qT p i.1)),i.2.2,.emp 0])
   (inv:=fun i=>i.1≤n∧qC [i.2.2] 0=true) (m:=fun i=>n-i.1) (0,1,.emp 0) ⟨nzl _,rfl⟩ (Wk.temps ?_) ?_
  ·(simp only[ql,qT,List.range_zero,List.filter_nil,List.map_nil,lnl,go_sem,qj,qd,qa,qi];try (repeat' first|(with_reducible apply aiA)|(apply qh;omega)|(apply qg;rfl)|exact qk))
  rintro⟨k,v2,O⟩ ⟨j1,j2⟩ K2 hK2;simp only at j1 j2 hK2;have j2': ∀m,qC (O::m) 0=true:=fun _=>j2
  have hst2:=zH p k;have hln2:=qN p k;obtain⟨M,hM⟩: ∃M,M=qT p k:=⟨_,rfl⟩
  have eM:=hM.symm;have eC2:=qy M;rw[eM]at hst2 hln2
  by_cases hk:k<n
  ·have y1:((k:Int)<n)=True:=eqt om;have c1:=fun h=>qlV a k h ha
   have epk:=ep k;unfold ql at c1;have eT2:List.take M.length (qp M)=qp M:=ltl om;cases hb1:decide ((k:Int)∈a)with
   |false=>
    rw[hb1]at c1 epk;simp only[epk,Bool.not_false,if_true]at hst2;simp (disch:=omega) only[ql,y1,eM,go_sem]
    repeat' first
     |(refine cA (c1 _) flk ?_;simp (disch:=omega) only[eC2,eT2,j2',Nat.mul_one,go_sem])
     |with_reducible apply aiA
    all_goals try exact clz
    have eA:qp M++ [AV.int .i64 (k:Int)]=qp (M++ [(k:Int)]):=by rw[qR];rfl
    have eD:(AV.int .i64 (k:Int)::List.drop 1 (qS [AV.int .i64 0] 1))= [AV.int .i64 (k:Int)]:=rfl
    try rw[eD]
    rw[eA,←hst2];refine hK2 _ _ (k+1,v2+1,.mem (qr (some O)+1) 3 [.int .i64 (k:Int)]) ⟨hk,rfl⟩ (by simp only;omega) ?_;simp only[hst2,lap,lco,lnl];refine Wk.temps ?_
    (simp only[ql,go_sem,qj,qd,qa,qi];try (repeat' first|(with_reducible apply aiA)|(apply qh;omega)|(apply qg;rfl)|exact qk))
   |true=>
    rw[hb1]at c1 epk;simp only[epk,Bool.not_true,Bool.false_eq_true,if_false,lan]at hst2;simp (disch:=omega) only[ql,y1,eM,go_sem]
    repeat' first
     |(refine cA (c1 _) flk ?_;simp (disch:=omega) only[Nat.mul_one,go_sem])
    refine hK2 _ _ (k+1,v2,O) ⟨hk,j2⟩ (by simp only;omega) ?_;simp only[hst2];refine Wk.temps ?_
    (simp only[ql,go_sem,qj,qd,qa,qi];try (repeat' first|(with_reducible apply aiA)|(apply qh;omega)|(apply qg;rfl)|exact qk))
  have y1:((k:Int)<n)=False:=eqf om;obtain rfl:k=n:=by omega
  simp only[eM];simp (disch:=omega) only[ql,y1,go_sem]
  repeat' first
   |(apply qb;exact rvk;simp only[go_sem])
  rw[ipo om];refine qL ⟨zO _ (fun n=>rfl) rfl,qk,trivial⟩
def uT(VL:En→List Int)(l:List En)(o:En):Nat→List Int
 |0=> []
 |j+1=>if smE l o j=true then qT (fun k=>decide ((k:Int)∈uT VL l o j)||decide ((k:Int)∈VL (l.getD j default))) 64 else uT VL l o j
theorem qsD(VL:En→List Int)(l:List En)(o:En): ∀j,qai 64 (uT VL l o j)=0∧(uT VL l o j).length≤64:=by
 intro j
 induction j with
 |zero=>exact⟨rfl,nzl _⟩
 |succ j ih=>
  unfold uT;split
  ·exact⟨qcm om,qN _ _⟩
  ·exact ih
theorem qAY{VL:En→List Int}{l:List En}{o:En}(hVL: ∀e,∀x∈VL e,0≤x∧x<64): ∀j (k:Nat),k<64→((k:Int)∈uT VL l o j↔vrB VL l o j k=true):=by
 intro j
 induction j with
 |zero=>intro k _;simp[uT,vrB]
 |succ j ih=>
  intro k hk;unfold uT vrB
  by_cases g:smE l o j=true
  ·rw[ipo g,g,Bool.true_and,Bool.or_eq_true,←ih k hk];constructor
   ·intro hm;obtain⟨k',e,_,h2⟩:=jk hm;have e:k'=k:=by omega
    subst e;simpa using h2
   ·intro hm;exact qbe.2 ⟨k,hk,by simpa using hm,rfl⟩
  ·rw[ine g,ih k hk];have g':smE l o j=false:=by simpa using g
   rw[g',Bool.false_and,Bool.or_false]
theorem qCX{VL:En→List Int}{l:List En}{o:En}{n:Nat}(hVL: ∀e,∀x∈VL e,0≤x∧x<n): ∀j,∀x∈uT VL l o j,0≤x∧x<n:=by
 intro j
 induction j with
 |zero=>intro x hx;cases hx
 |succ j ih=>
  intro x hx;unfold uT at hx;split at hx
  ·obtain⟨k,rfl,_,h2⟩:=jk hx;rw[Bool.or_eq_true,decide_eq_true_iff,decide_eq_true_iff]at h2;exact h2.elim (ih _) (hVL _ _)
  ·exact ih x hx
theorem qE5(names:List Str)(gs:List Gr)(VE:En→Int)(VL:En→List Int)(l:List En)(i:Int)(h:List AObj)(hz:Szs names gs)(hl:l.length≤1000000000)
  (h8:sgE names gs=0→names.length≤8∧gs.length≤8) (hVL:sgE names gs=0→ ∀e,∀x∈VL e,0≤x∧x<names.length) (hVs: ∀e,qai 64 (VL e)=0∧(VL e).length≤1000)
  (c60: ∀j h,ACalls Tryz.prog 72 [strs names,qu gs,.agg (enC (l.getD j default))] h (.tup [ql (VL (l.getD j default)),.int .i64 (VE (l.getD j default))]) h):
  ACalls Tryz.prog 74 [strs names,qu gs,zg l,.int .i64 i] h (.tup [.agg (enC (trR names gs VE VL l i)),.int .i64 (trE names gs VE l i)]) h:=by
 have c59:=fun h=>sgR names gs h hz
 obtain⟨R,hR⟩: ∃R,R=trE names gs VE l i:=⟨_,rfl⟩
 have hLR:trR names gs VE VL l i=if R=0 then tnE names gs VL l (l.getD i.toNat default) else zrE:=by rw[hR];rfl
 rw[hLR,←hR];have hzr:VLe (.agg [.int .i64 0,.int .i64 0,.int .i64 0,.bool false,.nl,.nl]) (.agg (enC zrE)):=VLe.agg ⟨qk,qk,qk,qk,jf,jf,trivial⟩;have zl:zg l= .sl l.length fun i=>enC (l.getD i default):=rfl
 unfold trE at hR;obtain⟨s,hs⟩: ∃s,s=sgE names gs:=⟨_,rfl⟩
 rw[←hs]at c59 hR h8 hVL
 by_cases g0:s≠0
 ·have k0:(s=0)=False:=eqf g0;rw[ipo g0]at hR;rw[hR,ine (by decide)];refine acO qpG ?_;simp (disch:=omega) only[qxY,go_sem]
  repeat' first
   |(refine cA (c59 _) flk ?_;simp (disch:=omega) only[k0,go_sem])
   |(apply qb;exact rvk;simp only[go_sem])
  exact qL ⟨hzr,qk,trivial⟩
 have g0:s=0:=Classical.not_not.1 g0;have k0:(s=0)=True:=eqt g0;obtain⟨n8,g8⟩:=h8 g0;have hVL:=hVL g0;rw[ine (fun hc=>hc g0)]at hR
 by_cases g1:i<0
 ·have k1:(i<0)=True:=eqt g1;rw[ipo (.inl g1)]at hR;rw[hR,ine (by decide)];refine acO qpG ?_;simp (disch:=omega) only[qxY,zl,go_sem]
  repeat' first
   |(refine cA (c59 _) flk ?_;simp (disch:=omega) only[k0,k1,go_sem])
   |(apply qb;exact rvk;simp only[go_sem])
  exact qL ⟨hzr,qk,trivial⟩
 have k1:(i<0)=False:=eqf g1
 by_cases g2:(l.length:Int)≤i
 ·have k2:((l.length:Int)≤i)=True:=eqt g2;rw[ipo (.inr g2)]at hR;rw[hR,ine (by decide)];refine acO qpG ?_;simp (disch:=omega) only[qxY,zl,go_sem]
  repeat' first
   |(refine cA (c59 _) flk ?_;simp (disch:=omega) only[k0,k1,k2,go_sem])
   |(apply qb;exact rvk;simp only[go_sem])
  exact qL ⟨hzr,qk,trivial⟩
 have k2:((l.length:Int)≤i)=False:=eqf g2;rw[ine (fun hc=>hc.elim g1 g2)]at hR;have k3:(0≤i)=True:=eqt om;have k4:(i<l.length)=True:=eqt om;obtain⟨o,ho⟩: ∃o,o=l.getD i.toNat default:=⟨_,rfl⟩
 have eo:=ho.symm;rw[eo]at hR ⊢;refine acO qpG ?_;simp (disch:=omega) only[qxY,zl,go_sem]
 repeat' first
  |(refine cA (c59 _) flk ?_;simp (disch:=omega) only[k0,k1,k2,go_sem])
 refine qn (T:=fun j:Nat=>qI 112 [(0,strs names),(1,qu gs),(2,zg l),(3,.int .i64 i),(8,.op h.length 1 0),(10,ql (uT VL l o j)),(11,.int .i64 j)])
  (H:=fun _=>h++ [.mem 1 58 [.int .i64 0,.int .i64 0,.int .i64 0,.bool false,.nl,.nl],.emp 2,.emp 0])
  (inv:=fun j=>j≤l.length∧ ∀k,k<j→trF VE l o k=0) (m:=fun j=>l.length-j) 0 ⟨nzl _,fun j hj=>absurd hj (nnz j)⟩ (Wk.trans (Wk.freeze [h.length+1] (by simp only[ju,go_sem])) ?_) ?_
 ·have e0:uT VL l o 0= []:=rfl;rw[e0];simp only[qbs,List.map,go_sem];refine Wk.temps ?_
  (simp only[strs,qu,zl,ql,go_sem,qj,qd,qa,qi];try (repeat' first|(with_reducible apply aiA)|(apply qh;omega)|(apply qg;rfl)|exact qk))
  all_goals try (rw[ine (by simp)];exact qk)
  all_goals try (rw[ipo (by simp),ipo (by simp),ipo (nzl _)];exact VLe.sl_eq rfl (fun i hi=>absurd hi (by simp)))
 rintro j ⟨j1,j3⟩ K hK
 by_cases hj:j<l.length
 ·have r1:((j:Int)<l.length)=True:=eqt om;have r0:(0≤(j:Int))=True:=eqt om;have hE:=qO (f:=trF VE l o) hj j3;have hf:trF VE l o j=if smE l o j=true then VE (l.getD j default) else 0:=rfl
  have hsm:smE l o j=(decide ((l.getD j default).frm=o.frm)&&decide ((l.getD j default).to=o.to)):=rfl;have hst:uT VL l o (j+1)=if smE l o j=true then qT (fun k=>decide ((k:Int)∈uT VL l o j)||decide ((k:Int)∈VL (l.getD j default))) 64 else uT VL l o j:=rfl
  obtain⟨u1,u2⟩:=qsD VL l o j;have c60j:=fun h=>c60 j h
  have hvs:=hVs (l.getD j default);obtain⟨U,hU⟩: ∃U,U=uT VL l o j:=⟨_,rfl⟩
  have eU:=hU.symm;rw[eU]at hst u1 u2;obtain⟨x,hx⟩: ∃x,x=l.getD j default:=⟨_,rfl⟩
  have ex:=hx.symm;simp only[ex]at hf hsm hst c60j hvs;have hS:trF VE l o j=0→ ∀k,k<j+1→trF VE l o k=0:=fun hx k hk=>by
   by_cases e':k=j
   ·subst e';exact hx
   ·exact j3 k om
  by_cases a1:x.frm=o.frm
  case neg=>
   have q1:(x.frm=o.frm)=False:=eqf a1;rw[dqf a1,Bool.false_and]at hsm;rw[hsm,ine (by simp)]at hf hst;simp (disch:=omega) only[zl,enC,r0,r1,k3,k4,ex,eo,q1,eU,go_sem]
   repeat' first
    |with_reducible first|intro _|apply aiA
   all_goals try exact clz
   refine hK _ _ (j+1) ⟨hj,hS hf⟩ om (Wk.temps ?_);rw[hst]
   (simp only[zl,go_sem,qj,qd,qa,qi];try (repeat' first|(with_reducible apply aiA)|(apply qh;omega)|(apply qg;rfl)|exact qk))
  have q1:(x.frm=o.frm)=True:=eqt a1
  by_cases a2:x.to=o.to
  case neg=>
   have q2:(x.to=o.to)=False:=eqf a2;rw[dqf a2,Bool.and_false]at hsm;rw[hsm,ine (by simp)]at hf hst;simp (disch:=omega) only[zl,enC,r0,r1,k3,k4,ex,eo,q1,q2,eU,go_sem];refine hK _ _ (j+1) ⟨hj,hS hf⟩ om (Wk.temps ?_);rw[hst]
   (simp only[zl,go_sem,qj,qd,qa,qi];try (repeat' first|(with_reducible apply aiA)|(apply qh;omega)|(apply qg;rfl)|exact qk))
  have q2:(x.to=o.to)=True:=eqt a2;rw[dqt a1,dqt a2]at hsm;rw[hsm,ipo (by rfl)]at hf hst;obtain⟨y,hy⟩: ∃y,y=VE x:=⟨_,rfl⟩
  obtain⟨V,hV⟩: ∃V,V=VL x:=⟨_,rfl⟩
  rw[←hy]at hf c60j;rw[←hV]at c60j hvs hst
  by_cases a3:y≠0
  ·have q3:(y=0)=False:=eqf a3;rw[hE (by rw[hf];exact a3),hf]at hR;rw[hR,ine a3];simp (disch:=omega) only[zl,r0,r1,k3,k4,ex,eo,enC,q1,q2,eU,go_sem]
   repeat' first
    |(refine cA (c60j _) flk ?_;simp (disch:=omega) only[q3,go_sem])
    |(apply qb;exact rvk;simp only[go_sem])
    |with_reducible apply aiA
   all_goals try exact clz
   exact qL ⟨hzr,qk,trivial⟩
  have a3:y=0:=Classical.not_not.1 a3;have q3:(y=0)=True:=eqt a3;have c71:=fun h=>qCY U V h om om u1 hvs.1
  rw[←hst]at c71;simp (disch:=omega) only[zl,r0,r1,k3,k4,ex,eo,enC,q1,q2,eU,go_sem]
  repeat' first
   |((first|refine cA (c60j _) ?_ ?_|refine cA (c71 _) ?_ ?_);exact flk;simp (disch:=omega) only[q3,go_sem])
   |with_reducible apply aiA
  all_goals try exact clz
  refine hK _ _ (j+1) ⟨hj,hS (by rw[hf];exact a3)⟩ om (Wk.temps ?_)
  (simp only[zl,go_sem,qj,qd,qa,qi];try (repeat' first|(with_reducible apply aiA)|(apply qh;omega)|(apply qg;rfl)|exact qk))
 obtain rfl:j=l.length:=by omega
 have r1:((l.length:Int)<l.length)=False:=eqf om;rw[qz (f:=trF VE l o) j3]at hR;rw[hR,ipo rfl];obtain⟨u1,u2⟩:=qsD VL l o l.length;have ul:=qCX (o:=o) (l:=l) hVL l.length;have hrst:qsz names VL l o=qT (fun k=> !decide ((k:Int)∈uT VL l o l.length)) names.length:=by
  unfold qsz;refine kM fun k hk=> ?_
  have:=qAY (l:=l) (o:=o) (VL:=VL) (fun e x hx=>by have:=hVL e x hx;omega) l.length k om
  cases hb:vrB VL l o l.length k with
  |true=>rw[dqt (this.2 hb)]
  |false=>rw[dqf (fun hc=>by rw[this.1 hc]at hb;cases hb)]
 obtain⟨U,hU⟩: ∃U,U=uT VL l o l.length:=⟨_,rfl⟩
 rw[←hU]at u1 u2 ul hrst ⊢;clear hK;unfold tnE;have zn1: ∀g,valL g .len [strs names]= .int .i64 names.length:=fun _=>rfl
 have zn2: ∀g,okL g .len [strs names]=True:=fun _=>eqt trivial
 cases hpos:o.pos with
 |true=>
  rw[ipo rfl];simp (disch:=omega) only[zl,enC,r1,k3,k4,eo,hpos,zn1,zn2,go_sem]
  repeat' first
   |(apply qb;exact rvk;simp only[go_sem])
  exact qL ⟨VLe.agg ⟨qk,qk,qk,qk,jf,qk,trivial⟩,qk,trivial⟩
 |false=>
 rw[ine (by simp)];have c148:=fun h=>qEg names.length U h om om u1 (fun x hx=>(ul x hx).2)
 simp only[←hrst]at c148;have hrl:(qsz names VL l o).length≤1000000000:=by
  unfold qsz
  have:=qN (fun k=> !vrB VL l o l.length k) names.length
  omega
 have hse:qbJ names gs (qsz names VL l o)=0:=by
  unfold qbJ;rw[←hs,ipo g0];exact qe9 _ _
 obtain⟨r,hr⟩: ∃r,r=qsz names VL l o:=⟨_,rfl⟩
 rw[←hr]at hrl hse ⊢;simp only[←hr]at c148;have c102:=fun h=>qES names gs r h hz hrl (fun _=>⟨n8,g8⟩)
 rw[hse]at c102;simp (disch:=omega) only[zl,enC,r1,k3,k4,eo,hpos,zn1,zn2,go_sem]
 repeat' first
  |((first|refine cA (c148 _) ?_ ?_|refine cA (c102 _) ?_ ?_);exact flk;simp (disch:=omega) only[List.set_cons_succ,List.set_cons_zero,go_sem])
  |(apply qb;exact rvk;simp only[go_sem];exact qk)
  |with_reducible apply aiA
 all_goals try exact clz
end RC
end
section
open Go Go.Proofs AF
end
section
open Go Go.Proofs AF
end
section
open Go Go.Proofs AF HY LN
namespace RC
theorem qvI{names:List Str}{gs:List Gr}{e:En}{x:Int}(hx:x∈vsL names gs e):0≤x∧x<32:=by
 unfold vsL at hx;split at hx
 ·obtain⟨u,rfl,_,_⟩:=jk hx;omega
 ·cases hx
theorem qeu(names:List Str)(gs:List Gr)(e:En):(vsL names gs e).length≤1000:=by
 unfold vsL;split
 ·exact Nat.le_trans (qN _ _) om
 ·exact nzl _
theorem qvC(names:List Str)(gs:List Gr)(VL:En→List Int)(l:List En)(o:En):(tnE names gs VL l o).sup.length≤200:=by
 unfold tnE;split
 ·exact nzl _
 ·exact qvp _ _ _
end RC
end
section
open Go Go.Proofs AF
def qpQ:List Nat:= []
def qrA:C:=
 ((C.ops [MC 14 (.bool false)]).seq (((C.ops [MV 31 0,MV 32 1,O2 33 (.call 69 true) 31 32,MV 34 33,MG 35 34 false 0,P1 36 34 false .len 35,PC 37 34 false (.bin .gtr) 36 (i6
 36),PT 38 34 37,MV 39 38,MG 40 39 false 1,P1 41 39 false .len 40,PC 42 39 false (.bin .gtr) 41 (i6 18),PT 43 39 42,MV 44 43,MG 45 44 false 2,PC 46 44 false (.call 70 true)
 45 (i6 14),PT 47 44 46,MV 48 47,MG 49 48 false 3,P1 50 48 false (.call 71 true) 49,PT 51 48 50,MV 52 51,MG 53 52 false 4,P1 54 52 false .len 53,PC 55 52 false (.bin .gtr)
 54 (i6 14),PT 56 52 55]).seq (C.cond (.t 56) ((C.ops [ON 57 (.call 24 true) [],MV 14 57]).seq C.ret) C.skip)).seq (((C.ops [MV 58 3,O1 59 .len 58,MC 60 (i6 0)]).seq (C.block 0
 ((C.ops [BI 61 .lss 60 59]).seq ((C.cond (.t 61) C.skip (C.exit 0)).seq ((C.block 1 ((C.ops [O2 62 (.idxA 6) 58 60,O1 63 (.load (some 6)) 62,⟨some 16,none,.alloc 0 58 [i6 0,i6
 0,i6 0,.bool false,.nl,.nl],[]⟩,ST 6 16 63]).seq ((C.ops [MV 65 0,MV 66 1,O1 67 (.load (some 6)) 16,ON 68 (.call 62 true) [.t 65,.t 66,.t 67],MV 64 68,O1 69 (.ext 0)
 64,O1 70 (.ext 1) 64,MV 17 69,MV 18 70]).seq ((C.ops [MV 72 0,MV 73 1,O1 74 (.load (some 6)) 16,ON 75 (.call 72 true) [.t 72,.t 73,.t 74],MV 71 75,O1 76 (.ext 0) 71,O1
 77 (.ext 1) 71,MV 19 76,MV 20 77]).seq ((C.ops [MV 78 0,MV 79 1,MV 80 2,O1 81 (.load (some 6)) 16,ON 82 (.call 65 true) [.t 78,.t 79,.t 80,.t 81],MV 83 0,MV 84 1,MV 85
 2,O1 86 (.load (some 6)) 16,ON 87 (.call 73 true) [.t 83,.t 84,.t 85,.t 86],BI 88 .neq 82 87,MV 89 88,MG 90 89 false 17,MG 91 89 false 19,P2 92 89 false (.call 40 true)
 90 91,P1 93 89 false (.un UnOp.not) 92,PT 94 89 93,MV 95 94,MG 96 95 false 18,MG 97 95 false 20,P2 98 95 false (.bin .neq) 96 97,PT 99 95 98]).seq (C.cond (.t 99) ((C.ops
 [MC 14 (.bool false)]).seq C.ret) C.skip)))))).seq (C.ops [BC 100 .add 60 (i6 1),MV 60 100])))).loop)).seq ((C.ops [MV 102 0,MV 103 1,MV 104 3,MV 105 5,ON 106 (.call 67 true)
 [.t 102,.t 103,.t 104,.t 105],MV 101 106,O1 107 (.ext 0) 101,O1 108 (.ext 1) 101,⟨some 21,none,.alloc 1 58 [i6 0,i6 0,i6 0,.bool false,.nl,.nl],[]⟩,ST 6 21 107,MV
 22 108]).seq ((C.ops [MV 110 0,MV 111 1,MV 112 3,MV 113 5,ON 114 (.call 74 true) [.t 110,.t 111,.t 112,.t 113],MV 109 114,O1 115 (.ext 0) 109,O1 116 (.ext 1) 109,⟨some
 23,none,.alloc 2 58 [i6 0,i6 0,i6 0,.bool false,.nl,.nl],[]⟩,ST 6 23 115,MV 24 116]).seq ((C.ops [MV 118 4,MV 119 6,O2 120 (.call 31 true) 118 119,MV 117 120,O1 121
 (.ext 0) 117,O1 122 (.ext 1) 117,O1 123 (.ext 2) 117,MV 25 121,MV 26 122,MV 27 123]).seq ((C.ops [MV 125 4,MV 126 6,O2 127 (.call 75 true) 125 126,MV 124 127,O1 128 (.ext
 0) 124,O1 129 (.ext 1) 124,O1 130 (.ext 2) 124,MV 28 128,MV 29 129,MV 30 130]).seq ((C.ops [O1 131 (.load (some 6)) 21,O1 132 (.load (some 6)) 23,O2 133 (.call 30 true) 131
 132,MV 134 133,MG 135 134 true 22,MG 136 134 true 24,P2 137 134 true (.bin .eql) 135 136,PF 138 134 137,MV 139 138,MG 140 139 true 25,MG 141 139 true 28,P2 142 139 true
 (.bin .eql) 140 141,PF 143 139 142,MV 144 143,MG 145 144 true 26,MG 146 144 true 29,P2 147 144 true (.bin .eql) 145 146,PF 148 144 147,MV 149 148,MG 150 149 true 27,MG 151
 149 true 30,P2 152 149 true (.bin .eql) 150 151,PF 153 149 152,MV 154 153,MG 155 154 true 3,MG 156 154 true 6,P2 157 154 true (.call 45 true) 155 156,MG 158 154 true 3,MG
 159 154 true 6,P2 160 154 true (.call 76 true) 158 159,P2 161 154 true (.call 29 true) 157 160,PF 162 154 161,MV 163 162,PN 164 163 true (.call 24 true) [],PF 165 163 164,MV
 14 165]).seq
 C.ret))))))))
theorem qf4:qB Tryz.prog 13 166 3 [RV.tmp 14] qrA:=fi Tryz.f13 [16,21,23] qpQ []
end
section
open Go Go.Proofs AF HY LN
namespace RC
structure CkB (names:List Str) (gs:List Gr) (words:List Str) (l:List En) (b:List Wd):Prop where
 n:names.length≤9223372036854775807
 g:gs.length≤9223372036854775807
 w:words.length≤9223372036854775807
 e: ∀i,EnB (l.getD i default)
 ll:l.length≤9223372036854775807
 bl:b.length≤9223372036854775807
theorem quM{l:List En}{y:Int}(h:EqZ l):EqZ (ofL l y):=by
 have hl:(ofL l y).length≤l.length:=List.length_filter_le _ _;have hm: ∀i,ofL l y≠ []→i<(ofL l y).length→ ∃j,(ofL l y).getD i default=l.getD j default:=fun i _ hi=>by
  have:=List.getElem_mem hi
  have hmem:=(List.mem_filter.1 this).1;obtain⟨j,hj,e⟩:=List.getElem_of_mem hmem;exact⟨j,by rw[gdqA,gdqA,zp hi,zp hj,Option.getD_some,Option.getD_some,e]⟩
 have hx: ∀i,(∃j,(ofL l y).getD i default=l.getD j default):=fun i=>by
  by_cases hi:i<(ofL l y).length
  ·exact hm i (fun e=>by rw[e]at hi;exact absurd hi (nnz _)) hi
  ·exact⟨l.length,by rw[gdqA,gdqA,List.getElem?_eq_none om,List.getElem?_eq_none (nlr _)]⟩
 refine⟨Nat.le_trans hl h.n,fun i=> ?_,fun i=> ?_,fun i j=> ?_,fun i j=> ?_⟩
 ·obtain⟨j,e⟩:=hx i;rw[e];exact h.s j
 ·obtain⟨j,e⟩:=hx i;rw[e];exact h.v j
 ·obtain⟨k,e⟩:=hx i;rw[e];exact h.w k j
 ·obtain⟨k,e⟩:=hx i;rw[e];exact h.g k j
theorem qCB(names:List Str)(gs:List Gr)(words:List Str)(l:List En)(b:List Wd)(i y:Int)(h:List AObj)(hp:qag SG h)(hb:CkB names gs words l b):
  ACalls Tryz.prog 13 [strs names,qu gs,strs words,zg l,qZ b,.int .i64 i,.int .i64 y] h (.bool true) h:=by
 have c24:=fun l=>qBM (h++l) (hp.app l)
 have c69:=fun h=>qEq names gs h hb.n hb.g
 have c70:=fun h=>gwP words 14 h hb.w
 have c71:=fun h=>qEr l h hb.e hb.ll
 have z1: ∀g,valL g .len [strs names]= .int .i64 names.length:=fun _=>rfl
 have z2: ∀g,okL g .len [strs names]=True:=fun _=>eqt trivial
 have z3: ∀g,valL g .len [qu gs]= .int .i64 gs.length:=fun _=>rfl
 have z4: ∀g,okL g .len [qu gs]=True:=fun _=>eqt trivial
 have z5: ∀g,valL g .len [qZ b]= .int .i64 b.length:=fun _=>rfl
 have z6: ∀g,okL g .len [qZ b]=True:=fun _=>eqt trivial
 have z7: ∀g,valL g .len [zg l]= .int .i64 l.length:=fun _=>rfl
 have z8: ∀g,okL g .len [zg l]=True:=fun _=>eqt trivial
 obtain⟨g1,hg1⟩: ∃g,g=qlN names gs:=⟨_,rfl⟩
 rw[←hg1]at c69;cases g1 with
 |true=>
  refine acO qf4 ?_;simp (disch:=omega) only[qrA,go_sem]
  repeat' first
   |(refine qm ( .bool false) ?_;simp (disch:=omega) only[z5,z6,go_sem])
   |((first|refine cA (c69 _) ?_ ?_|refine cA (c24 _) ?_ ?_);exact flk;simp (disch:=omega) only[z1,z2,z3,z4,go_sem])
   |(apply qb;exact rvk;simp only[go_sem];exact qk)
 |false=>
 have hsz:=qsj hg1.symm
 by_cases a1:36<names.length
 ·have k1:((36:Int)<names.length)=True:=eqt om;refine acO qf4 ?_;simp (disch:=omega) only[qrA,go_sem]
  repeat' first
   |(refine qm ( .bool false) ?_;simp (disch:=omega) only[z5,z6,go_sem])
   |((first|refine cA (c69 _) ?_ ?_|refine cA (c24 _) ?_ ?_);exact flk;simp (disch:=omega) only[z1,z2,z3,z4,k1,go_sem])
   |(apply qb;exact rvk;simp only[go_sem];exact qk)
 have k1:((36:Int)<names.length)=False:=eqf om
 by_cases a2:18<gs.length
 ·have k2:((18:Int)<gs.length)=True:=eqt om;refine acO qf4 ?_;simp (disch:=omega) only[qrA,go_sem]
  repeat' first
   |(refine qm ( .bool false) ?_;simp (disch:=omega) only[z5,z6,go_sem])
   |((first|refine cA (c69 _) ?_ ?_|refine cA (c24 _) ?_ ?_);exact flk;simp (disch:=omega) only[z1,z2,z3,z4,k1,k2,go_sem])
   |(apply qb;exact rvk;simp only[go_sem];exact qk)
 have k2:((18:Int)<gs.length)=False:=eqf om;obtain⟨g2,hg2⟩: ∃g,g=gwB words 14:=⟨_,rfl⟩
 have e14:((14:Nat):Int)=14:=rfl;simp only[←hg2,e14]at c70;cases g2 with
 |true=>
  refine acO qf4 ?_;simp (disch:=omega) only[qrA,go_sem]
  repeat' first
   |(refine qm ( .bool false) ?_;simp (disch:=omega) only[z5,z6,go_sem])
   |((first|refine cA (c69 _) ?_ ?_|refine cG (fun e=>c70 _) ?_ ?_|refine cA (c24 _) ?_ ?_);exact flk;simp (disch:=omega) only[z1,z2,z3,z4,k1,k2,go_sem])
   |(apply qb;exact rvk;simp only[go_sem];exact qk)
 |false=>
 obtain⟨g3,hg3⟩: ∃g,g=qwv l:=⟨_,rfl⟩
 rw[←hg3]at c71;cases g3 with
 |true=>
  refine acO qf4 ?_;simp (disch:=omega) only[qrA,go_sem]
  repeat' first
   |((first|refine cA (c69 _) ?_ ?_|refine cG (fun e=>c70 _) ?_ ?_|refine cG (fun e=>c71 _) ?_ ?_|refine cA (c24 _) ?_ ?_);exact flk;simp (disch:=omega) only[z1,z2,z3,z4,z5,z6,k1,k2,go_sem])
   |(apply qb;exact rvk;simp only[go_sem];exact qk)
 |false=>
 by_cases a3:14<b.length
 ·have k3:((14:Int)<b.length)=True:=eqt om;refine acO qf4 ?_;simp (disch:=omega) only[qrA,go_sem]
  repeat' first
   |((first|refine cA (c69 _) ?_ ?_|refine cG (fun e=>c70 _) ?_ ?_|refine cG (fun e=>c71 _) ?_ ?_|refine cA (c24 _) ?_ ?_);exact flk;simp (disch:=omega) only[z1,z2,z3,z4,z5,z6,k1,k2,k3,go_sem])
   |(apply qb;exact rvk;simp only[go_sem];exact qk)
 have k3:((14:Int)<b.length)=False:=eqf om;obtain⟨n10,hge⟩:=quq hg3.symm;obtain⟨w14,hgw⟩:=qdq hg2.symm;have hg42:=hg1.symm;have h8:=fun e=>qeY hg42 e
 have hgm: ∀i,(gs.getD i default).mem.length≤1000:=fun i=>by
  obtain⟨_,_,_,h4⟩:=qlO hg42
  have:=(h4 i).2
  omega
 have hte:TSz words:=⟨om,fun j=>by have:=hgw j;omega⟩
 have hez: ∀j,ESz (l.getD j default):=fun j=>by
  obtain⟨v,s,w⟩:=qlQ (hge j);exact⟨om,om,fun i=>⟨by have:=(w i).1.1;omega,fun q=>by have:=(w i).1.2 q;omega⟩,fun i=>by have:=(w i).2;omega⟩
 have hsp: ∀j,(l.getD j default).sup.length≤1000000:=fun j=>by have:=(qlQ (hge j)).2.1;omega
 have hsg: ∀j i,((l.getD j default).vars.getD i default).sigla.length≤1000000:=fun j i=>by have:=((qlQ (hge j)).2.2 i).2;omega
 have hEq:EqZ l:=⟨om,fun i=>by have:=hsp i;omega,fun i=>(hez i).vs,fun i j=>((hez i).w j).n,fun i=>(hez i).sg⟩
 have zen:zg l= .sl l.length fun i=>enC (l.getD i default):=rfl
 have c62:=fun j h=>vsP names gs (l.getD j default) h hsz (hez j).vs (hez j).sg
 have c72:=fun j h=>vsR names gs (l.getD j default) h hsz (hez j).vs (hsg j) hgm
 have c65:=fun j l'=>qD6 names gs words (l.getD j default) (h++l') hsz hte (hez j) (hp.app l')
 have c73:=fun j l'=>qD7 names gs words (l.getD j default) (h++l') hsz hte (hez j) hgm (hsg j) (hsp j) (hp.app l')
 refine acO qf4 ?_;simp (disch:=omega) only[qrA,go_sem]
 repeat' first
  |((first|refine cA (c69 _) ?_ ?_|refine cG (fun e=>c70 _) ?_ ?_|refine cG (fun e=>c71 _) ?_ ?_);exact flk;simp (disch:=omega) only[z1,z2,z3,z4,z5,z6,z7,z8,k1,k2,k3,go_sem])
 refine qn (T:=fun s:Nat×AObj=>qI 166 [(0,strs names),(1,qu gs),(2,strs words),(3,zg l),(4,qZ b),(5,.int .i64 i),(6,.int .i64 y),(58,zg l),(59,.int .i64 l.length),(60,.int .i64 s.1)])
  (H:=fun s=>h++ [s.2,.emp 0,.emp 0])
  (inv:=fun s=>s.1≤l.length∧qC [s.2] 0=true) (m:=fun s=>l.length-s.1) (0,.emp 0) ⟨nzl _,rfl⟩ (Wk.temps ?_) ?_
 ·(simp only[go_sem,qj,qd,qa,qi];try (repeat' first|(with_reducible apply aiA)|(apply qh;omega)|(apply qg;rfl)|exact qk))
 rintro⟨j,O⟩ ⟨j1,j2⟩ K hK;simp only at j1 j2 hK;have j2': ∀m,qC (O::m) 0=true:=fun _=>j2
 by_cases hj:j<l.length
 ·have r1:((j:Int)<l.length)=True:=eqt om;have r0:(0≤(j:Int))=True:=eqt om;have c62:=c62 j;have c72:=c72 j;have c65:=c65 j;have c73:=c73 j;have hvl:=qeu names gs (l.getD j default);obtain⟨e,he⟩: ∃e,e=l.getD j default:=⟨_,rfl⟩
  have ee:=he.symm;rw[ee]at hvl;simp only[ee]at c62 c72 c65 c73;have c40:=fun h=>qDw (vsL names gs e) (vsL names gs e) h om om
  rw[dqt rfl]at c40;obtain⟨A,hA⟩: ∃A,A=vsL names gs e:=⟨_,rfl⟩
  obtain⟨E,hE⟩: ∃E,E=vsE names gs e:=⟨_,rfl⟩
  obtain⟨C,hC⟩: ∃C,C=qol names gs words e:=⟨_,rfl⟩
  simp only[←hA,←hE,←hC]at c40 c62 c72 c65 c73;have q1:(E=E)=True:=eqt rfl;have q2:(C=C)=True:=eqt rfl;simp (disch:=omega) only[zen,enC,r0,r1,ee,j2',go_sem]
  repeat' first
   |((first|refine cA (c62 _) ?_ ?_|refine cA (c72 _) ?_ ?_|refine cA (c65 _) ?_ ?_|refine cA (c73 _) ?_ ?_|refine cG (fun e=>c40 _) ?_ ?_);exact flk;simp (disch:=omega) only[go_sem])
   |with_reducible apply aiA
  all_goals try exact clz
  refine hK _ _ (j+1,.mem (qr (some O)+1) 58 (enC e)) ⟨hj,rfl⟩ (by simp only;omega) ?_;refine Wk.temps ?_
  (simp only[go_sem,qj,qd,qa,qi];try (repeat' first|(with_reducible apply aiA)|(apply qh;omega)|(apply qg;rfl)|exact qk))
 obtain rfl:j=l.length:=by omega
 have r1:((l.length:Int)<l.length)=False:=eqf om;clear hK c62 c65 c72 c73 z7 z8;have c67:=fun h=>qE4 names gs (vsE names gs) (vsL names gs) l i h hsz om h8 (fun e x hx=>qvI hx) (fun e=>qeu _ _ e) (fun j h=>vsP names gs (l.getD j default) h hsz (hez j).vs (hez j).sg)
 have c74:=fun h=>qE5 names gs (vsE names gs) (vsL names gs) l i h hsz om h8 (fun _ e x hx=>qvJ hx) (fun e=>⟨by unfold vsL;split;exact qcm (by decide);rfl,qeu _ _ e⟩) (fun j h=>vsR names gs (l.getD j default) h hsz (hez j).vs (hsg j) hgm)
 have c31:=fun h=>qDK b y h om
 have c75:=fun h=>qET b y h om
 have c45:=fun h=>ofP l y h om
 have c76:=fun h=>ofR l y h om
 have hof:EqZ (ofL l y):=quM hEq;have c29:=fun h=>qDF (ofL l y) h hof
 have zT:ESz (trR names gs (vsE names gs) (vsL names gs) l i):=by
  unfold trR;split
  ·have ev:(tnE names gs (vsL names gs) l (l.getD i.toNat default)).vars=(l.getD i.toNat default).vars:=(qnR _ _ _ _ _).2.2.1;exact⟨Nat.le_trans (qvC _ _ _ _ _) (by decide),by rw[ev];exact (hez _).vs,by rw[ev];exact (hez _).w,by rw[ev];exact (hez _).sg⟩
  ·exact⟨nzl _,nzl _,fun i=>⟨by show ([]:List Str).length≤_;simp,fun j=>by show (([]:List Str).getD j []).length≤_;simp⟩,fun i=>by show ([]:List Str).length≤_;simp⟩
 have c30:=fun h=>qDI (trR names gs (vsE names gs) (vsL names gs) l i) h zT.sup zT.vs (fun j=>(zT.w j).n) zT.sg
 obtain⟨T,hT⟩: ∃T,T=trR names gs (vsE names gs) (vsL names gs) l i:=⟨_,rfl⟩
 obtain⟨E,hE⟩: ∃E,E=trE names gs (vsE names gs) l i:=⟨_,rfl⟩
 obtain⟨sF,hsF⟩: ∃x,x=qq2 (inU b y) b.length:=⟨_,rfl⟩
 obtain⟨sT,hsT⟩: ∃x,x=qq3 (inU b y) b.length:=⟨_,rfl⟩
 obtain⟨sE,hsE⟩: ∃x,x=qgw (inU b y) b.length:=⟨_,rfl⟩
 obtain⟨oL,hoL⟩: ∃x,x=ofL l y:=⟨_,rfl⟩
 simp only[←hT,←hE]at c67 c74 c30;simp only[←hsF,←hsT,←hsE]at c31 c75;simp only[←hoL]at c45 c76 c29;have q1:(E=E)=True:=eqt rfl;have q2:(sF=sF)=True:=eqt rfl;have q3:(sT=sT)=True:=eqt rfl;have q4:(sE=sE)=True:=eqt rfl;unfold enC at c67 c74 c30;simp (disch:=omega) only[r1,go_sem]
 repeat' first
  |((first|refine cA (c67 _) ?_ ?_|refine cA (c74 _) ?_ ?_|refine cA (c31 _) ?_ ?_|refine cA (c75 _) ?_ ?_|refine cA (c30 _) ?_ ?_|refine cG (fun e=>c45 _) ?_ ?_|refine cG (fun e=>c76 _) ?_ ?_|refine cG (fun e=>c29 _) ?_ ?_|refine cG (fun e=>c24 _) ?_ ?_);exact flk;simp (disch:=omega) only[go_sem])
  |(apply qb;exact rvk;simp only[go_sem];exact qk)
  |with_reducible apply aiA
 all_goals try exact clz
end RC
end
section
open Go Go.Proofs AF HY Go.ChangeShapes Go.RowKit
namespace LN
theorem qCu : Tryz.prog.globalNamed "internal/strconv.uint64pow10" = some 1 := by kernel_rfl
theorem qCw : Tryz.prog.globalNamed "strconv.ErrSyntax" = some 6 := by kernel_rfl
theorem qCv : Tryz.prog.globalNamed "strconv.ErrRange" = some 7 := by kernel_rfl
theorem qqr{w w':World}(h:qrw w)(e:w'.heap[1]? =w.heap[1]?):qrw w':=by
 unfold qrw Lib.TabIs at*;rw[qeq qCu e];exact h
theorem qfG : "*" ++ "errors.errorString" = "*errors.errorString" := by decide
theorem qsy (u : TypeId) (h : Tryz.prog.typeName? 3 u = some "*errors.errorString") : u = 323 :=
 typeName_ptr_named (nm := "errors.errorString") (by rw [qfG]; kernel_rfl) (by kernel_rfl) (by decide) u (by rw [qfG]; exact h)
def qeg:List Nat:= [1,6,7]
def qBD(w:World):Prop:=qrw w∧qwF w
theorem qAW{W:World}(h:laidMet Tryz.prog YtgoandblgcjleaaGreatDoor.Rows.apparatusSpansRow.laid W):qrw W∧qwF W:=by
 have h2:=laidMet.tail (laidMet.tail h);have h3:=laidMet.tail (laidMet.tail h2);have h4:=laidMet.tail h3;obtain⟨a,s,e1,_⟩:=laid_sentinel (g:=7) (ti:=192) (tp:=323) (te:=325) (ts:=9) h3 qCv (by kernel_rfl) Tryz.underlying192 qsy Tryz.underlying323 Tryz.underlying325 rfl rfl Tryz.underlying9 (by kernel_rfl) (by kernel_rfl);obtain⟨b,t,e2,_⟩:=laid_sentinel (g:=6) (ti:=192) (tp:=323) (te:=325) (ts:=9) h4 qCw (by kernel_rfl) Tryz.underlying192 qsy Tryz.underlying323 Tryz.underlying325 rfl rfl Tryz.underlying9 (by kernel_rfl) (by kernel_rfl);exact⟨Lib.tabIs_of_head (t:=288) (e:=164) (n:=20) qCu (by kernel_rfl) Tryz.underlying288 Tryz.underlying164 (by kernel_rfl) (by kernel_rfl) h2,⟨_,_,e2⟩,_,_,e1⟩
theorem qqR{W:World}(h:laidMet Tryz.prog YtgoandblgcjleaaGreatDoor.Rows.apparatusSpansRow.laid W): ∀b,b∈qeg→ ∃arr T fz,W.heap[b]? =some (.cells arr T fz):=by
 intro b hb;obtain⟨h1,⟨_,_,h2⟩,_,_,h3⟩:=qAW h;have e:b=1∨b=6∨b=7:=by simpa[qeg] using hb
 rcases e with rfl|rfl|rfl
 ·exact qcZ qCu h1
 ·exact qcZ qCw h2
 ·exact qcZ qCv h3
theorem qvo{W:World}(h:laidMet Tryz.prog YtgoandblgcjleaaGreatDoor.Rows.apparatusSpansRow.laid W): ∀w':World,(∀b,b∈qeg→w'.heap[b]? =W.heap[b]?)→qBD w':=by
 intro w' hs;obtain⟨h1,⟨t1,p1,h2⟩,t2,p2,h3⟩:=qAW h;refine⟨qqr h1 (hs 1 (by simp[qeg])),⟨t1,p1,?_⟩,t2,p2,?_⟩
 ·rw[qeq qCw (hs 6 (by simp[qeg]))];exact h2
 ·rw[qeq qCv (hs 7 (by simp[qeg]))];exact h3
theorem qvn:qag RC.SG [.pin qeg qBD]:=⟨0,_,_,rfl,fun _ h=>h⟩
end LN
end
