import Derived.Test.YtgoandblgcjleaaGreatDoorK15
import Derived.Test.YtgoandblgcjleaaGreatDoorK14
import Derived.Test.YtgoandblgcjleaaGreatDoorK9
import Derived.Test.YtgoandblgcjleaaGreatDoorRows
import Derived.LaidLaws
set_option linter.all false
set_option linter.unusedSimpArgs false
set_option linter.unusedVariables false
set_option linter.unusedSectionVars false
set_option maxHeartbeats 128000000
set_option maxRecDepth 100000
section
open Go Go.Proofs AF HY LN
namespace RC
theorem qvB(L:List Str)(h: ∀s∈L,s.length≤1000):(Lib.joinTail [32] L).length≤L.length*1001:=qlA [32] 1000 L h
theorem quh(x:Co)(l:List Un)(d:List Dc)(b:List Wd)(i:Int)(h:List AObj)(hz:qen x)(hu:qeo l)(hb:b.length≤1000000)(ht: ∀i,(b.getD i default).text.length≤1000000000)(hn:x.sig.length≤1000)
  (hsl: ∀s,(x.sig.getD s []).length≤1000) (hdl:d.length≤1000000) (hds: ∀j,(d.getD j default).sig.length≤1000000) (hp:ky SG h):
  ACalls Tryz.prog 22 [.agg (coC x),qz l,qaR d,qZ b,.int .i64 i] h (.tup [.str (exR x l d b i),.int .i64 (exE x l d b i)]) h:=by
 have c39:=fun l'=>qye x l b (h++l') hz hu om ht (hp.app l')
 have z1: ∀g,valL g .len [qZ b]= .int .i64 b.length:=fun _=>rfl
 have z2: ∀g,okL g .len [qZ b]=True:=fun _=>eqt trivial
 have z3: ∀g,valL g .len [qaR d]= .int .i64 d.length:=fun _=>rfl
 have z4: ∀g,okL g .len [qaR d]=True:=fun _=>eqt trivial
 obtain⟨E,hE⟩: ∃E,E=exE x l d b i:=⟨_,rfl⟩
 have hR:exR x l d b i=if E=0 then qsH x d (b.getD i.toNat default) (soK x l b i.toNat) else []:=by rw[hE];rfl
 rw[hR,←hE];unfold exE at hE;unfold coC at c39
 by_cases g1:pvE x l b=0
 case neg=>
  rw[ipo g1]at hE;rw[hE,ine g1];have k1:(pvE x l b=0)=False:=eqf g1;refine acO qjG ?_;simp (disch:=omega) only[qsG,coC,k1,go_sem]
  repeat' first
   |((first|refine cA (c39 _) ?_ ?_|refine cG (fun e=>c39 _) ?_ ?_|refine cU (fun _=>c39 _) ?_ ?_);exact flk;simp (disch:=omega) only[coC,k1,go_sem])
   |((first|apply qa|apply qc);exact rvk;simp only[go_sem];first|exact qi|apply qf|apply qd|apply qF|skip)
   |with_reducible first|intro _|apply aiA
  all_goals try exact clz
 rw[ine (fun hc=>hc g1)]at hE;simp only[g1]at c39
 by_cases g2:i<0
 ·have k2:(i<0)=True:=eqt g2;rw[ipo (.inl g2)]at hE;rw[hE,ine (by decide)];refine acO qjG ?_;simp (disch:=omega) only[qsG,coC,z1,z2,k2,go_sem]
  repeat' first
   |((first|refine cA (c39 _) ?_ ?_|refine cG (fun e=>c39 _) ?_ ?_|refine cU (fun _=>c39 _) ?_ ?_);exact flk;simp (disch:=omega) only[coC,z1,z2,k2,go_sem])
   |((first|apply qa|apply qc);exact rvk;simp only[go_sem];first|exact qi|apply qf|apply qd|apply qF|skip)
   |with_reducible first|intro _|apply aiA
  all_goals try exact clz
 have k2:(i<0)=False:=eqf g2
 by_cases g3:(b.length:Int)≤i
 ·have k3:((b.length:Int)≤i)=True:=eqt g3;rw[ipo (.inr g3)]at hE;rw[hE,ine (by decide)];refine acO qjG ?_;simp (disch:=omega) only[qsG,coC,z1,z2,k2,k3,go_sem]
  repeat' first
   |((first|refine cA (c39 _) ?_ ?_|refine cG (fun e=>c39 _) ?_ ?_|refine cU (fun _=>c39 _) ?_ ?_);exact flk;simp (disch:=omega) only[coC,z1,z2,k2,k3,go_sem])
   |((first|apply qa|apply qc);exact rvk;simp only[go_sem];first|exact qi|apply qf|apply qd|apply qF|skip)
   |with_reducible first|intro _|apply aiA
  all_goals try exact clz
 have k3:((b.length:Int)≤i)=False:=eqf g3;rw[ine (fun hc=>hc.elim g2 g3)]at hE;obtain⟨j,rfl⟩: ∃j:Nat,i=(j:Int):=⟨i.toNat,om⟩
 rw[itn]at hE ⊢;have hjl:j<b.length:=by omega
 have k0:(0≤(j:Int))=True:=eqt om;have k5:((j:Int)<b.length)=True:=eqt om;have zb:qZ b= .sl b.length fun i=>wdC (b.getD i default):=rfl
 have hpu:=qc2 g1 hjl;obtain⟨hSl,hSr⟩:=qlb g1 hjl;have htx:=(qfQ g1).tx j hjl;have c88:=fun h=>qwh x l b j h hu hb hjl om hpu.2
 obtain⟨S,hS⟩: ∃S,S=soK x l b j:=⟨_,rfl⟩
 rw[←hS]at hSl hSr;rw[←hS];simp only[←hS]at c88;unfold coC at c88;obtain⟨w,hw⟩: ∃w,w=b.getD j default:=⟨_,rfl⟩
 have ew:=hw.symm;rw[ew]at hE hpu htx;rw[ew]
 by_cases g4:(d.length:Int)≤w.dec
 ·have k4:((d.length:Int)≤w.dec)=True:=eqt g4;rw[ipo g4]at hE;rw[hE,ine (by decide)];refine acO qjG ?_;simp (disch:=omega) only[qsG,coC,z1,z2,z3,z4,k2,k3,zb,wdC,k0,k5,ew,k4,go_sem]
  repeat' first
   |((first|refine cA (c39 _) ?_ ?_|refine cG (fun e=>c39 _) ?_ ?_|refine cU (fun _=>c39 _) ?_ ?_);exact flk;simp (disch:=omega) only[coC,z1,z2,z3,z4,k2,k3,zb,wdC,k0,k5,ew,k4,go_sem])
   |((first|apply qa|apply qc);exact rvk;simp only[go_sem];first|exact qi|apply qf|apply qd|apply qF|skip)
   |with_reducible first|intro _|apply aiA
  all_goals try exact clz
 have k4:((d.length:Int)≤w.dec)=False:=eqf g4;rw[ine g4]at hE;rw[hE,ipo rfl];clear hE hR;rw[qug];have hb1:w.text.length≤64:=htx.2;have y1: ∀g,valL g .len [qq S]= .int .i64 S.length:=fun _=>rfl
 have y2: ∀g,okL g .len [qq S]=True:=fun _=>eqt trivial
 refine acO qjG ?_;simp (disch:=omega) only[qsG,coC,z1,z2,z3,z4,k2,k3,zb,wdC,k0,k5,ew,k4,go_sem]
 repeat' first
  |((first|refine cA (c39 _) ?_ ?_|refine cG (fun e=>c39 _) ?_ ?_|refine cA (c88 _) ?_ ?_|refine cG (fun e=>c88 _) ?_ ?_|refine cU (fun _=>c39 _) ?_ ?_|refine cU (fun _=>c88 _) ?_ ?_);exact flk;simp (disch:=omega) only[coC,z1,z2,z3,z4,k2,k3,zb,wdC,k0,k5,ew,k4,go_sem])
  |((first|apply qa|apply qc);exact rvk;simp only[go_sem];first|exact qi|apply qf|apply qd|apply qF|skip)
  |with_reducible first|intro _|apply aiA
 all_goals try exact clz
 have hjl0: ∀k,k≤S.length→(Lib.joinTail [32] (joN x (S.take k))).length≤k*1001:=fun k hk=>by
  have e:(joN x (S.take k)).length=k:=by unfold joN;rw[List.length_map,List.length_take];omega
  have:=qvB (joN x (S.take k)) (fun s hs=>by
   unfold joN at hs;obtain⟨y,_,rfl⟩:=List.mem_map.1 hs
   exact hsl _)
  rw[e]at this;exact this
 have zS:qq S= .sl S.length fun i=> [.int .i64 (S.getD i 0)]:=rfl
 have zG:strs x.sig= .sl x.sig.length fun i=> [.str (x.sig.getD i [])]:=rfl
 refine qn (T:=fun k:Nat=>qM 108 [(2,qaR d),(5,.op h.length 1 0),(13,.op (h.length+1) 1 0),(14,.str (w.text++([58]++Lib.joinTail [32] (joN x (S.take k))))),(15,qq S),(16,.int .i64 k)])
  (H:=fun _=>h++ [.mem 1 26 [.str x.sec,strs x.sig,qm x.tok,qp x.col],.mem 1 64 [AV.str w.text,AV.int .i64 w.col,AV.int .i64 w.unit,AV.int .i64 w.dec,AV.bool w.joined,AV.bool w.verse,AV.str w.name]])
  (inv:=fun k=>k≤S.length) (m:=fun k=>S.length-k) 0 (nzl _) (Wk.temps ?_) ?_
 ·have e0:Lib.joinTail [32] (joN x (S.take 0))= []:=rfl
  (simp only[e0,lan,go_sem,qh,qe,qb,qg];try (repeat' first|(with_reducible apply aiA)|(apply qf;omega)|(apply qd;rfl)|exact qi))
 intro k q1 K hK;have hjk:=hjl0 k q1
 by_cases hk:k<S.length
 ·have r1:((k:Int)<S.length)=True:=eqt om;have r0:(0≤(k:Int))=True:=eqt om;have hmm:S.getD k 0∈S:=by rw[gdqA,jr hk];exact List.getElem_mem hk
  obtain⟨y1',y2'⟩:=hSr _ hmm;have hst:joN x (S.take (k+1))=joN x (S.take k)++ [x.sig.getD (S.getD k 0).toNat []]:=by
   unfold joN;rw[List.take_add_one,List.map_append,jr hk,gdqA (l:=S),jr hk];rfl
  obtain⟨y,hy⟩: ∃y:Nat,S.getD k 0=(y:Int):=⟨(S.getD k 0).toNat,om⟩
  rw[hy,itn]at hst;rw[hy]at y1' y2';have t1:((y:Int)<x.sig.length)=True:=eqt y2';have t0:(0≤(y:Int))=True:=eqt y1';have hyl:=hsl y;obtain⟨u,hu'⟩: ∃u,u=x.sig.getD y []:=⟨_,rfl⟩
  have eu:=hu'.symm;rw[eu]at hst hyl;have hjs:Lib.joinTail [32] (joN x (S.take (k+1)))=Lib.joinTail [32] (joN x (S.take k))++([32]++u):=by rw[hst,qvA];simp[Lib.joinTail]
  obtain⟨J,hJ⟩: ∃J,J=Lib.joinTail [32] (joN x (S.take k)):=⟨_,rfl⟩
  rw[←hJ]at hjs hjk;rw[←hJ];simp (disch:=omega) only[zS,zG,r0,r1,hy,t0,t1,eu,go_sem]
  repeat' first
   |((first|apply qa|apply qc);exact rvk;simp only[go_sem];first|exact qi|apply qf|apply qd|apply qF|skip)
   |with_reducible first|intro _|apply aiA
  all_goals try exact clz
  all_goals try (simp only[lap,lco,lnl];omega)
  refine hK _ _ (k+1) hk om (Wk.temps ?_);have es:w.text++58::J++ [32]++u=w.text++([58]++Lib.joinTail [32] (joN x (S.take (k+1)))):=by rw[hjs];simp
  rw[es]
  (simp only[zS,go_sem,qh,qe,qb,qg];try (repeat' first|(with_reducible apply aiA)|(apply qf;omega)|(apply qd;rfl)|exact qi))
 obtain rfl:k=S.length:=by omega
 clear hK;rw[List.take_length]at hjk ⊢;have r1:((S.length:Int)<S.length)=False:=eqf om;have hNM0:nmN x S=if S= [] then [[110,111,32,115,111,117,114,99,101]] else joN x S:=rfl
 by_cases h0:S= []
 ·have r2:((S.length:Int)=0)=True:=eqt (by rw[h0];rfl);rw[ipo h0]at hNM0;have e0:Lib.joinTail [32] (joN x S)= []:=by rw[h0];rfl
  have hJ0:Lib.joinTail [32] (nmN x S)= [32,110,111,32,115,111,117,114,99,101]:=by rw[hNM0];rfl
  rw[e0];unfold tlL
  by_cases u1:w.unit<0
  ·have e1:(w.unit<0)=True:=eqt u1;rw[ipo u1];simp (disch:=omega) only[r1,r2,y1,y2,e1,go_sem]
   repeat' first
    |((first|apply qa|apply qc);exact rvk;simp only[go_sem];first|exact qi|apply qf|apply qd|apply qF|skip)
    |with_reducible first|intro _|apply aiA
   all_goals try exact clz
   all_goals try (simp only[lap,lco,lnl];omega)
   all_goals (refine ju ⟨qF ?_,qi,trivial⟩;simp[hJ0])
  have e1:(w.unit<0)=False:=eqf u1;rw[ine u1]
  by_cases u2:w.dec<0
  ·have e2:(w.dec<0)=True:=eqt u2;rw[ipo u2];simp (disch:=omega) only[r1,r2,y1,y2,e1,e2,go_sem]
   repeat' first
    |((first|apply qa|apply qc);exact rvk;simp only[go_sem];first|exact qi|apply qf|apply qd|apply qF|skip)
    |with_reducible first|intro _|apply aiA
   all_goals try exact clz
   all_goals try (simp only[lap,lco,lnl];omega)
   all_goals (refine ju ⟨qF ?_,qi,trivial⟩;simp[hJ0])
  have e2:(w.dec<0)=False:=eqf u2;rw[ine u2];have hdc:w.dec<d.length:=by omega
  obtain⟨q,hq⟩: ∃q:Nat,w.dec=(q:Int):=⟨w.dec.toNat,om⟩
  have c89:=fun h=>qt1 q h om
  have hil:=qad (n:=(q:Int)) om om;rw[hq]at hdc e2 u2 k4;simp only[hq,itn];obtain⟨I,hI⟩: ∃I,I=Lib.itoa (q:Int):=⟨_,rfl⟩
  rw[←hI]at hil;simp only[←hI]at c89 ⊢;have hsg:=hds q;obtain⟨D,hD⟩: ∃D,D=d.getD q default:=⟨_,rfl⟩
  have eD:=hD.symm;rw[eD]at hsg ⊢;have zd:qaR d= .sl d.length fun i=>dcC (d.getD i default):=rfl
  have e3:(0≤(q:Int))=True:=eqt om;have e4:((q:Int)<d.length)=True:=eqt hdc
  by_cases u3:D.kind=1
  ·have e5:(D.kind=1)=True:=eqt u3;rw[ipo u3];simp (disch:=omega) only[r1,r2,y1,y2,e1,e2,e3,e4,e5,zd,dcC,eD,hq,go_sem]
   repeat' first
    |((first|refine cA (c89 _) ?_ ?_|refine cG (fun e=>c89 _) ?_ ?_|refine cU (fun _=>c89 _) ?_ ?_);exact flk;simp (disch:=omega) only[r1,r2,y1,y2,e1,e2,e3,e4,e5,zd,dcC,eD,hq,go_sem])
    |((first|apply qa|apply qc);exact rvk;simp only[go_sem];first|exact qi|apply qf|apply qd|apply qF|skip)
    |with_reducible first|intro _|apply aiA
   all_goals try exact clz
   all_goals try (simp only[lap,lco,lnl];omega)
   all_goals (refine ju ⟨qF ?_,qi,trivial⟩;simp[hJ0])
  have e5:(D.kind=1)=False:=eqf u3;rw[ine u3];simp (disch:=omega) only[r1,r2,y1,y2,e1,e2,e3,e4,e5,zd,dcC,eD,hq,go_sem]
  repeat' first
   |((first|refine cA (c89 _) ?_ ?_|refine cG (fun e=>c89 _) ?_ ?_|refine cU (fun _=>c89 _) ?_ ?_);exact flk;simp (disch:=omega) only[r1,r2,y1,y2,e1,e2,e3,e4,e5,zd,dcC,eD,hq,go_sem])
   |((first|apply qa|apply qc);exact rvk;simp only[go_sem];first|exact qi|apply qf|apply qd|apply qF|skip)
   |with_reducible first|intro _|apply aiA
  all_goals try exact clz
  all_goals try (simp only[lap,lco,lnl];omega)
  all_goals (refine ju ⟨qF ?_,qi,trivial⟩;simp[hJ0])
 have r2:((S.length:Int)=0)=False:=eqf (fun hc=>h0 (List.length_eq_zero_iff.1 om));rw[ine h0]at hNM0;rw[hNM0];obtain⟨J,hJ⟩: ∃J,J=Lib.joinTail [32] (joN x S):=⟨_,rfl⟩
 rw[←hJ]at hjk ⊢;unfold tlL
 by_cases u1:w.unit<0
 ·have e1:(w.unit<0)=True:=eqt u1;rw[ipo u1];simp (disch:=omega) only[r1,r2,y1,y2,e1,go_sem]
  repeat' first
   |((first|apply qa|apply qc);exact rvk;simp only[go_sem];first|exact qi|apply qf|apply qd|apply qF|skip)
   |with_reducible first|intro _|apply aiA
  all_goals try exact clz
  all_goals try (simp only[lap,lco,lnl];omega)
  all_goals (refine ju ⟨qF ?_,qi,trivial⟩;simp)
 have e1:(w.unit<0)=False:=eqf u1;rw[ine u1]
 by_cases u2:w.dec<0
 ·have e2:(w.dec<0)=True:=eqt u2;rw[ipo u2];simp (disch:=omega) only[r1,r2,y1,y2,e1,e2,go_sem]
  repeat' first
   |((first|apply qa|apply qc);exact rvk;simp only[go_sem];first|exact qi|apply qf|apply qd|apply qF|skip)
   |with_reducible first|intro _|apply aiA
  all_goals try exact clz
  all_goals try (simp only[lap,lco,lnl];omega)
  all_goals (refine ju ⟨qF ?_,qi,trivial⟩;simp)
 have e2:(w.dec<0)=False:=eqf u2;rw[ine u2];have hdc:w.dec<d.length:=by omega
 obtain⟨q,hq⟩: ∃q:Nat,w.dec=(q:Int):=⟨w.dec.toNat,om⟩
 have c89:=fun h=>qt1 q h om
 have hil:=qad (n:=(q:Int)) om om;rw[hq]at hdc e2 u2 k4;simp only[hq,itn];obtain⟨I,hI⟩: ∃I,I=Lib.itoa (q:Int):=⟨_,rfl⟩
 rw[←hI]at hil;simp only[←hI]at c89 ⊢;have hsg:=hds q;obtain⟨D,hD⟩: ∃D,D=d.getD q default:=⟨_,rfl⟩
 have eD:=hD.symm;rw[eD]at hsg ⊢;have zd:qaR d= .sl d.length fun i=>dcC (d.getD i default):=rfl
 have e3:(0≤(q:Int))=True:=eqt om;have e4:((q:Int)<d.length)=True:=eqt hdc
 by_cases u3:D.kind=1
 ·have e5:(D.kind=1)=True:=eqt u3;rw[ipo u3];simp (disch:=omega) only[r1,r2,y1,y2,e1,e2,e3,e4,e5,zd,dcC,eD,hq,go_sem]
  repeat' first
   |((first|refine cA (c89 _) ?_ ?_|refine cG (fun e=>c89 _) ?_ ?_|refine cU (fun _=>c89 _) ?_ ?_);exact flk;simp (disch:=omega) only[r1,r2,y1,y2,e1,e2,e3,e4,e5,zd,dcC,eD,hq,go_sem])
   |((first|apply qa|apply qc);exact rvk;simp only[go_sem];first|exact qi|apply qf|apply qd|apply qF|skip)
   |with_reducible first|intro _|apply aiA
  all_goals try exact clz
  all_goals try (simp only[lap,lco,lnl];omega)
  all_goals (refine ju ⟨qF ?_,qi,trivial⟩;simp)
 have e5:(D.kind=1)=False:=eqf u3;rw[ine u3];simp (disch:=omega) only[r1,r2,y1,y2,e1,e2,e3,e4,e5,zd,dcC,eD,hq,go_sem]
 repeat' first
  |((first|refine cA (c89 _) ?_ ?_|refine cG (fun e=>c89 _) ?_ ?_|refine cU (fun _=>c89 _) ?_ ?_);exact flk;simp (disch:=omega) only[r1,r2,y1,y2,e1,e2,e3,e4,e5,zd,dcC,eD,hq,go_sem])
  |((first|apply qa|apply qc);exact rvk;simp only[go_sem];first|exact qi|apply qf|apply qd|apply qF|skip)
  |with_reducible first|intro _|apply aiA
 all_goals try exact clz
 all_goals try (simp only[lap,lco,lnl];omega)
 all_goals (refine ju ⟨qF ?_,qi,trivial⟩;simp)
def gDb(d:List Dc)(i:Nat):Bool:=decide (80<(d.getD i default).txt.length)||decide (20<(d.getD i default).sig.length)
def qsI(d:List Dc):Bool:=zH (gDb d) d.length||decide (8<d.length)
theorem qxX(b:List Dc)(h:List AObj)(hn:b.length≤9223372036854775807):ACalls Tryz.prog 15 [qaR b] h (.bool (qsI b)) h:=by
 obtain⟨R,hR⟩: ∃R,R=qsI b:=⟨_,rfl⟩
 rw[←hR];unfold qsI at hR;have zb:qaR b= .sl b.length fun i=>dcC (b.getD i default):=rfl
 refine acO qxG ?_;simp (disch:=omega) only[qyQ,go_sem]
 repeat' first
  |((first|apply qa|apply qc);exact rvk;simp only[go_sem];first|exact qi|apply qf|apply qd|apply qF|skip)
  |with_reducible first|intro _|apply aiA
 all_goals try exact clz
 refine qn (T:=fun i:Nat=>qM 29 [(0,qaR b),(3,.int .i64 i)]) (H:=fun _=>h) (inv:=fun i=>i≤b.length∧ ∀j,j<i→gDb b j=false) (m:=fun i=>b.length-i) 0 ⟨nzl _,fun j hj=>absurd hj (nnz j)⟩ (Wk.temps ?_) ?_
 ·(simp only[go_sem,qh,qe,qb,qg];try (repeat' first|(with_reducible apply aiA)|(apply qf;omega)|(apply qd;rfl)|exact qi))
 rintro i ⟨i1,i2⟩ K hK
 by_cases hi:i<b.length
 ·have k1:((i:Int)<b.length)=True:=eqt om;have k0:(0≤(i:Int))=True:=eqt om;have hit:gDb b i=true→R=true:=fun hc=>by rw[hR,qv.2 ⟨i,hi,hc⟩];rfl
  have i3:=fun hc=>jj (p:=gDb b) i2 hc
  have hG:gDb b i=(decide (80<(b.getD i default).txt.length)||decide (20<(b.getD i default).sig.length)):=rfl;obtain⟨w,hw⟩: ∃w,w=b.getD i default:=⟨_,rfl⟩
  have ew:=hw.symm;rw[ew]at hG
  by_cases g1:80<w.txt.length
  ·have q1:((80:Int)<w.txt.length)=True:=eqt om;rw[hit (by rw[hG,dqt g1];rfl)];simp (disch:=omega) only[zb,dcC,k0,k1,ew,q1,go_sem]
   repeat' first
    |((first|apply qa|apply qc);exact rvk;simp only[go_sem];first|exact qi|apply qf|apply qd|apply qF|skip)
    |with_reducible first|intro _|apply aiA
   all_goals try exact clz
  have q1:((80:Int)<w.txt.length)=False:=eqf om
  by_cases g2:20<w.sig.length
  ·have q2:((20:Int)<w.sig.length)=True:=eqt om;rw[hit (by rw[hG,dqt g2,Bool.or_true])];simp (disch:=omega) only[zb,dcC,k0,k1,ew,q1,q2,go_sem]
   repeat' first
    |((first|apply qa|apply qc);exact rvk;simp only[go_sem];first|exact qi|apply qf|apply qd|apply qF|skip)
    |with_reducible first|intro _|apply aiA
   all_goals try exact clz
  have q2:((20:Int)<w.sig.length)=False:=eqf om;simp (disch:=omega) only[zb,dcC,k0,k1,ew,q1,q2,go_sem]
  repeat' first
   |((first|apply qa|apply qc);exact rvk;simp only[go_sem];first|exact qi|apply qf|apply qd|apply qF|skip)
   |with_reducible first|intro _|apply aiA
  all_goals try exact clz
  refine hK _ _ (i+1) ⟨hi,i3 (by rw[hG,dqf g1,dqf g2];rfl)⟩ om (Wk.temps ?_)
  (simp only[zb,dcC,go_sem,qh,qe,qb,qg];try (repeat' first|(with_reducible apply aiA)|(apply qf;omega)|(apply qd;rfl)|exact qi))
 obtain rfl:i=b.length:=by omega
 have k1:((b.length:Int)<b.length)=False:=eqf om;rw[qk.2 (fun j hj=>i2 j hj),Bool.false_or]at hR
 by_cases g:8<b.length
 ·have q:((8:Int)<b.length)=True:=eqt om;rw[dqt g]at hR;rw[hR];simp (disch:=omega) only[zb,k1,q,go_sem]
  repeat' first
   |((first|apply qa|apply qc);exact rvk;simp only[go_sem];first|exact qi|apply qf|apply qd|apply qF|skip)
   |with_reducible first|intro _|apply aiA
  all_goals try exact clz
 ·have q:((8:Int)<b.length)=False:=eqf om;rw[dqf g]at hR;rw[hR];simp (disch:=omega) only[zb,k1,q,go_sem]
  repeat' first
   |((first|apply qa|apply qc);exact rvk;simp only[go_sem];first|exact qi|apply qf|apply qd|apply qF|skip)
   |with_reducible first|intro _|apply aiA
  all_goals try exact clz
theorem qxY{d:List Dc}(h:qsI d=false):d.length≤8∧ ∀j,(d.getD j default).sig.length≤1000000:=by
 unfold qsI at h;rw[Bool.or_eq_false_iff,decide_eq_false_iff_not]at h;refine⟨om,zj d (fun d=>d.sig.length≤1000000) (by decide) fun i hi=> ?_⟩
 have:=qk.1 h.1 i hi
 unfold gDb at this;rw[Bool.or_eq_false_iff]at this
 have:=of_decide_eq_false this.2
 omega
theorem qvj{x:Co}(h:qnh x=false): ∀s,(x.sig.getD s []).length≤1000:=by
 unfold qnh at h;simp only[Bool.or_eq_false_iff]at h;obtain⟨_,_,_,_,h5⟩:=h;unfold gnB at h5;rw[Bool.or_eq_false_iff,qk]at h5;exact zj x.sig (fun s=>s.length≤1000) (by decide) fun i hi=>by have:=of_decide_eq_false (h5.1 i hi);omega
theorem qvC(x:Co)(l:List Un)(d:List Dc)(b:List Wd)(i s:Int)(h:List AObj)(hp:ky SG h)(h1:CoB x)(h2:UnB l)(h4:d.length≤9223372036854775807)(h3:b.length≤9223372036854775807):
  ACalls Tryz.prog 3 [.agg (coC x),qz l,qaR d,qZ b,.int .i64 i,.int .i64 s] h (.bool true) h:=by
 have c14:=fun h=>qzB x l b h h1 h2 h3
 have c15:=fun h=>qxX d h h4
 have c16:=fun l'=>qxf (h++l') (hp.app l')
 obtain⟨g,hg⟩: ∃g,g=qq6 x l b:=⟨_,rfl⟩
 obtain⟨gd,hgd⟩: ∃g,g=qsI d:=⟨_,rfl⟩
 rw[←hg]at c14;rw[←hgd]at c15;unfold coC at c14;cases g with
 |true=>
  refine acO qxI ?_;simp (disch:=omega) only[c3s,coC,go_sem]
  repeat' first
   |(refine qj ( .bool false) ?_;simp (disch:=omega) only[coC,go_sem])
   |((first|refine cA (c14 _) ?_ ?_|refine cG (fun e=>c14 _) ?_ ?_|refine cA (c16 _) ?_ ?_|refine cG (fun e=>c16 _) ?_ ?_|refine cU (fun _=>c14 _) ?_ ?_|refine cU (fun _=>c16 _) ?_ ?_);exact flk;simp (disch:=omega) only[coC,go_sem])
   |((first|apply qa|apply qc);exact rvk;simp only[go_sem];first|exact qi|apply qf|apply qd|apply qF|skip)
   |with_reducible first|intro _|apply aiA
  all_goals try exact clz
 |false=>
 cases gd with
 |true=>
  refine acO qxI ?_;simp (disch:=omega) only[c3s,coC,go_sem]
  repeat' first
   |((first|refine cA (c14 _) ?_ ?_|refine cG (fun e=>c14 _) ?_ ?_|refine cA (c15 _) ?_ ?_|refine cG (fun e=>c15 _) ?_ ?_|refine cA (c16 _) ?_ ?_|refine cG (fun e=>c16 _) ?_ ?_|refine cU (fun _=>c14 _) ?_ ?_|refine cU (fun _=>c15 _) ?_ ?_|refine cU (fun _=>c16 _) ?_ ?_);exact flk;simp (disch:=omega) only[coC,go_sem])
   |((first|apply qa|apply qc);exact rvk;simp only[go_sem];first|exact qi|apply qf|apply qd|apply qF|skip)
   |with_reducible first|intro _|apply aiA
  all_goals try exact clz
 |false=>
 obtain⟨o1,o2,o3,o4,o5⟩:=qpi hg.symm;obtain⟨d1,d2⟩:=qxY hgd.symm;have hsl: ∀s,(x.sig.getD s []).length≤1000:=qvj (by
  have:=hg.symm
  unfold qq6 at this;rw[Bool.or_eq_false_iff]at this
  exact this.1)
 have o4': ∀i,(b.getD i default).text.length≤1000000000:=fun i=>by have:=o4 i;omega
 have c1:=fun l'=>qzN x b i s (h++l') o1 om (hp.app l')
 have c2:=fun l'=>qzO x b i s (h++l') o1 om (hp.app l')
 have c3:=fun h=>qxv b i h
 have c4:=fun h=>qxw b i h
 have c5:=fun l'=>qjr x l d b i (h++l') o1 o2 om o4' om hsl om d2 (hp.app l')
 have c6:=fun l'=>quh x l d b i (h++l') o1 o2 om o4' om hsl om d2 (hp.app l')
 obtain⟨pg,ln,hpl⟩: ∃(pg:Str) (ln:Int),poR x b i s= [.str pg,.int .i64 ln]:=by
  unfold poR;split
  ·exact⟨_,_,rfl⟩
  ·exact⟨_,_,rfl⟩
 rw[hpl]at c1 c2;obtain⟨E1,hE1⟩: ∃E,E=poE x b i s:=⟨_,rfl⟩
 obtain⟨D,hD⟩: ∃E,E=deR b i:=⟨_,rfl⟩
 obtain⟨E2,hE2⟩: ∃E,E=deE b i:=⟨_,rfl⟩
 obtain⟨T,hT⟩: ∃E,E=exR x l d b i:=⟨_,rfl⟩
 obtain⟨E3,hE3⟩: ∃E,E=exE x l d b i:=⟨_,rfl⟩
 simp only[←hE1,←hD,←hE2,←hT,←hE3]at c1 c2 c3 c4 c5 c6;have q1:(E1=E1)=True:=eqt rfl;have q2:(D=D)=True:=eqt rfl;have q3:(E2=E2)=True:=eqt rfl;have q4:(T=T)=True:=eqt rfl;have q5:(E3=E3)=True:=eqt rfl;have q6:(pg=pg)=True:=eqt rfl;have q7:(ln=ln)=True:=eqt rfl;unfold coC at c1 c2 c5 c6;refine acO qxI ?_;simp (disch:=omega) only[c3s,coC,go_sem]
 repeat' first
  |((first|refine cA (c14 _) ?_ ?_|refine cG (fun e=>c14 _) ?_ ?_|refine cA (c15 _) ?_ ?_|refine cG (fun e=>c15 _) ?_ ?_|refine cA (c1 _) ?_ ?_|refine cG (fun e=>c1 _) ?_ ?_|refine cA (c2 _) ?_ ?_|refine cG (fun e=>c2 _) ?_ ?_|refine cA (c3 _) ?_ ?_|refine cG (fun e=>c3 _) ?_ ?_|refine cA (c4 _) ?_ ?_|refine cG (fun e=>c4 _) ?_ ?_|refine cA (c5 _) ?_ ?_|refine cG (fun e=>c5 _) ?_ ?_|refine cA (c6 _) ?_ ?_|refine cG (fun e=>c6 _) ?_ ?_|refine cA (c16 _) ?_ ?_|refine cG (fun e=>c16 _) ?_ ?_|refine cU (fun _=>c14 _) ?_ ?_|refine cU (fun _=>c15 _) ?_ ?_|refine cU (fun _=>c1 _) ?_ ?_|refine cU (fun _=>c2 _) ?_ ?_|refine cU (fun _=>c3 _) ?_ ?_|refine cU (fun _=>c4 _) ?_ ?_|refine cU (fun _=>c5 _) ?_ ?_|refine cU (fun _=>c6 _) ?_ ?_|refine cU (fun _=>c16 _) ?_ ?_);exact flk;simp (disch:=omega) only[coC,q1,q2,q3,q4,q5,q6,q7,go_sem])
  |((first|apply qa|apply qc);exact rvk;simp only[go_sem];first|exact qi|apply qf|apply qd|apply qF|skip)
  |with_reducible first|intro _|apply aiA
 all_goals try exact clz
end RC
end
section
open Go Go.Proofs AF HY Go.ChangeShapes Go.RowKit
namespace LN
theorem qxU : Tryz.prog.globalNamed "internal/strconv.uint64pow10" = some 1 := by kernel_rfl
theorem qxW : Tryz.prog.globalNamed "strconv.ErrSyntax" = some 6 := by kernel_rfl
theorem qxV : Tryz.prog.globalNamed "strconv.ErrRange" = some 7 := by kernel_rfl
theorem qnQ{w w':World}(h:qoI w)(e:w'.heap[1]? =w.heap[1]?):qoI w':=by
 unfold qoI Lib.TabIs at*;rw[qdg qxU e];exact h
theorem qe5 : "*" ++ "errors.errorString" = "*errors.errorString" := by decide
theorem qpu (u : TypeId) (h : Tryz.prog.typeName? 3 u = some "*errors.errorString") : u = 323 :=
 typeName_ptr_named (nm := "errors.errorString") (by rw [qe5]; kernel_rfl) (by kernel_rfl) (by decide) u (by rw [qe5]; exact h)
def qc9:List Nat:= [1,6,7]
def qxa(w:World):Prop:=qoI w∧qsS w
theorem qr2:ky RC.SG [.pin qc9 qxa]:=⟨0,_,_,rfl,fun _ h=>h⟩
theorem qwg{W:World}(h:laidMet Tryz.prog YtgoandblgcjleaaGreatDoor.Rows.provenanceOthersRow.laid W):qoI W∧qsS W:=by
 have h2:=laidMet.tail (laidMet.tail h);have h3:=laidMet.tail h2;have h4:=laidMet.tail h3;obtain⟨a,s,e1,_⟩:=laid_sentinel (g:=7) (ti:=192) (tp:=323) (te:=325) (ts:=9) h3 qxV (by kernel_rfl) Tryz.underlying192 qpu Tryz.underlying323 Tryz.underlying325 rfl rfl Tryz.underlying9 (by kernel_rfl) (by kernel_rfl);obtain⟨b,t,e2,_⟩:=laid_sentinel (g:=6) (ti:=192) (tp:=323) (te:=325) (ts:=9) h4 qxW (by kernel_rfl) Tryz.underlying192 qpu Tryz.underlying323 Tryz.underlying325 rfl rfl Tryz.underlying9 (by kernel_rfl) (by kernel_rfl);exact⟨Lib.tabIs_of_head (t:=288) (e:=164) (n:=20) qxU (by kernel_rfl) Tryz.underlying288 Tryz.underlying164 (by kernel_rfl) (by kernel_rfl) h2,⟨_,_,e2⟩,_,_,e1⟩
theorem qoe{W:World}(h:laidMet Tryz.prog YtgoandblgcjleaaGreatDoor.Rows.provenanceOthersRow.laid W): ∀b,b∈qc9→ ∃arr T fz,W.heap[b]? =some (.cells arr T fz):=by
 intro b hb;obtain⟨h1,⟨_,_,h2⟩,_,_,h3⟩:=qwg h;have e:b=1∨b=6∨b=7:=by simpa[qc9] using hb
 rcases e with rfl|rfl|rfl
 ·exact qb4 qxU h1
 ·exact qb4 qxW h2
 ·exact qb4 qxV h3
theorem qr5{W:World}(h:laidMet Tryz.prog YtgoandblgcjleaaGreatDoor.Rows.provenanceOthersRow.laid W): ∀w':World,(∀b,b∈qc9→w'.heap[b]? =W.heap[b]?)→qxa w':=by
 intro w' hs;obtain⟨h1,⟨t1,p1,h2⟩,t2,p2,h3⟩:=qwg h;refine⟨qnQ h1 (hs 1 (by simp[qc9])),⟨t1,p1,?_⟩,t2,p2,?_⟩
 ·rw[qdg qxW (hs 6 (by simp[qc9]))];exact h2
 ·rw[qdg qxV (hs 7 (by simp[qc9]))];exact h3
end LN
end
