import Derived.Test.YtgoandblgcjleaaGreatDoorK14
import Derived.Test.YtgoandblgcjleaaGreatDoorK12
import Derived.Test.YtgoandblgcjleaaGreatDoorK13
import Derived.Test.YtgoandblgcjleaaGreatDoorK11
import Derived.Test.YtgoandblgcjleaaGreatDoorK3
import Derived.Test.YtgoandblgcjleaaGreatDoorK4
import Derived.Test.YtgoandblgcjleaaGreatDoorK8
import Derived.Test.YtgoandblgcjleaaGreatDoorProg
import Derived.Shelf.Slices.In.SortNone
import Derived.Test.YtgoandblgcjleaaGreatDoorK9
import Derived.Lib.ItoaLen
import Derived.Test.YtgoandblgcjleaaGreatDoorRows
import Derived.LaidLaws
set_option linter.all false
set_option linter.unusedSimpArgs false
set_option linter.unusedVariables false
set_option linter.unusedSectionVars false
set_option maxHeartbeats 256000000
set_option maxRecDepth 100000
section
open Go Go.Proofs AF HY LN
namespace RC
def soE(x:Co)(l:List Un)(b:List Wd)(i:Int):Int:=if pvE x l b≠0 then pvE x l b else if i<0∨(b.length:Int)≤i then 2 else 0
def soL(x:Co)(l:List Un)(b:List Wd)(i:Int):List Int:=if soE x l b i=0 then soK x l b i.toNat else []
def agE(x:Co)(l:List Un)(b:List Wd)(s:Int):Int:=if pvE x l b≠0 then pvE x l b else if s<0∨(x.sig.length:Int)≤s then 2 else 0
def agB(l:List Un)(b:List Wd)(s:Int)(u:Nat):Bool:=decide (((l.getD u default).rds.getD (qc8 (l.getD u default).rds s).toNat default).words=owG b (u:Int) b.length)
def agN(x:Co)(l:List Un)(b:List Wd)(s:Int):Int:=if agE x l b s=0 then (cP (agB l b s) l.length:Int) else 0
def agM(x:Co)(l:List Un)(b:List Wd)(s:Int):Int:=if agE x l b s=0 then (l.length:Int) else 0
theorem qa2{x:Co}{l:List Un}{b:List Wd}(h:pvE x l b=0){i:Nat}(hi:i<b.length): -1≤(b.getD i default).unit∧(b.getD i default).unit<(l.length:Int):=by
 have hu:=(qcA h).un2 i hi
 have:=qcY l (b.getD i default).col
 omega
theorem qyI{x:Co}{l:List Un}{b:List Wd}(h:pvE x l b=0):vaE x l=0:=by
 unfold pvE at h;split at h
 ·rename_i h1;exact absurd h h1
 ·rename_i h1;exact Classical.not_not.1 h1
theorem qlx(x:Co)(l:List Un)(b:List Wd)(i:Int)(h:List AObj)(hz:qcM x)(hu:qca l)(hb:b.length≤1000000)(ht: ∀i,(b.getD i default).text.length≤1000000000)(hn:x.sig.length≤1000000)(hp:kh SG h):
  ACalls Tryz.prog 32 [.agg (coC x),qx l,qV b,.int .i64 i] h (.tup [qr (soL x l b i),.int .i64 (soE x l b i)]) h:=by
 have c38:=fun l'=>pvP x l b (h++l') hz hu om ht (hp.app l')
 have z1: ∀g,valL g .len [qV b]= .int .i64 b.length:=fun _=>rfl
 have z2: ∀g,okL g .len [qV b]=True:=fun _=>eqt trivial
 have nl0:VLe AV.nl (qr []):=qbI;obtain⟨E,hE⟩: ∃E,E=soE x l b i:=⟨_,rfl⟩
 have hL:soL x l b i=if E=0 then soK x l b i.toNat else []:=by rw[hE];rfl
 rw[hL,←hE];unfold soE at hE;unfold coC at c38
 by_cases g1:pvE x l b=0
 case neg=>
  rw[ipo g1]at hE;rw[hE,ine g1];have k1:(pvE x l b=0)=False:=eqf g1;refine acO qnf ?_;simp (disch:=omega) only[quc,coC,go_sem]
  repeat' first
   |(refine cA (c38 _) flk ?_;simp (disch:=omega) only[k1,go_sem])
   |(apply qb;exact rvk;simp only[go_sem])
  exact jn ⟨nl0,qi,trivial⟩
 rw[ine (fun hc=>hc g1)]at hE;simp only[g1]at c38
 by_cases g2:i<0
 ·have k2:(i<0)=True:=eqt g2;rw[ipo (.inl g2)]at hE;rw[hE,ine (by decide)];refine acO qnf ?_;simp (disch:=omega) only[quc,coC,go_sem]
  repeat' first
   |(refine cA (c38 _) flk ?_;simp (disch:=omega) only[z1,z2,k2,go_sem])
   |(apply qb;exact rvk;simp only[go_sem])
  exact jn ⟨nl0,qi,trivial⟩
 have k2:(i<0)=False:=eqf g2
 by_cases g3:(b.length:Int)≤i
 ·have k3:((b.length:Int)≤i)=True:=eqt g3;rw[ipo (.inr g3)]at hE;rw[hE,ine (by decide)];refine acO qnf ?_;simp (disch:=omega) only[quc,coC,go_sem]
  repeat' first
   |(refine cA (c38 _) flk ?_;simp (disch:=omega) only[z1,z2,k2,k3,go_sem])
   |(apply qb;exact rvk;simp only[go_sem])
  exact jn ⟨nl0,qi,trivial⟩
 have k3:((b.length:Int)≤i)=False:=eqf g3;rw[ine (fun hc=>hc.elim g2 g3)]at hE;rw[hE,ipo rfl];obtain⟨j,rfl⟩: ∃j:Nat,i=(j:Int):=⟨i.toNat,om⟩
 rw[itn];have c84:=fun h=>qpN x l b j h hu hb om hn (qa2 g1 om).2
 unfold coC at c84;refine acO qnf ?_;simp (disch:=omega) only[quc,coC,go_sem]
 repeat' first
  |((first|refine cA (c38 _) ?_ ?_|refine cA (c84 _) ?_ ?_);exact flk;simp (disch:=omega) only[z1,z2,k2,k3,go_sem])
  |(apply qb;exact rvk;simp only[go_sem];exact qi)
theorem qga{x:Co}{l:List Un}(ho:qsY x l){u:Nat}(hul:u<l.length){s:Int}(h1:0≤s)(h2:s<x.sig.length):0≤qeu (l.getD u default).rds s∧qeu (l.getD u default).rds s<(l.getD u default).rds.length∧qc8 (l.getD u default).rds s=qeu (l.getD u default).rds s∧s∈((l.getD u default).rds.getD (qeu (l.getD u default).rds s).toNat default).src:=by
 have hmem:l.getD u default∈l:=by rw[gdqA,zY hul];exact List.getElem_mem hul
 have hr:=(ho.rg _ hmem).2.2.2;obtain⟨j,j1,j2⟩:=(qc9 x (l.getD u default).frm.toNat (l.getD u default).to.toNat).has s.toNat om;rw[←hr]at j1 j2;have es:((s.toNat:Nat):Int)=s:=by omega
 rw[es]at j2;have hb:qeu (l.getD u default).rds s=qbi (fun j=>decide (s∈((l.getD u default).rds.getD j default).src)) (l.getD u default).rds.length 0:=rfl;rcases zm (fun j=>decide (s∈((l.getD u default).rds.getD j default).src)) (l.getD u default).rds.length with⟨i,h3,h4,_,h6⟩|⟨h3,_⟩
 ·rw[←hb]at h6;have h7:qc8 (l.getD u default).rds s=qeu (l.getD u default).rds s:=by unfold qc8;rw[ine om]
  refine⟨om,om,h7,?_⟩;rw[h6,itn];exact of_decide_eq_true h4
 ·exact absurd j2 (of_decide_eq_false (h3 j j1))
theorem qtg(x:Co)(l:List Un)(b:List Wd)(s:Int)(h:List AObj)(hz:qcM x)(hu:qca l)(hb:b.length≤1000000)(ht: ∀i,(b.getD i default).text.length≤1000000000)(hn:x.sig.length≤1000000)(hp:kh SG h):
  ACalls Tryz.prog 36 [.agg (coC x),qx l,qV b,.int .i64 s] h (.tup [.int .i64 (agN x l b s),.int .i64 (agM x l b s),.int .i64 (agE x l b s)]) h:=by
 have c38:=fun l'=>pvP x l b (h++l') hz hu om ht (hp.app l')
 have z1: ∀g,valL g .len [strs x.sig]= .int .i64 x.sig.length:=fun _=>rfl
 have z2: ∀g,okL g .len [strs x.sig]=True:=fun _=>eqt trivial
 have zu:qx l= .sl l.length fun i=>unC (l.getD i default):=rfl
 obtain⟨E,hE⟩: ∃E,E=agE x l b s:=⟨_,rfl⟩
 have hN:agN x l b s=if E=0 then (cP (agB l b s) l.length:Int) else 0:=by rw[hE];rfl
 have hM:agM x l b s=if E=0 then (l.length:Int) else 0:=by rw[hE];rfl
 rw[hN,hM,←hE];unfold agE at hE;unfold coC at c38
 by_cases g1:pvE x l b=0
 case neg=>
  rw[ipo g1]at hE;rw[hE,ine g1,ine g1];have k1:(pvE x l b=0)=False:=eqf g1;refine acO qnh ?_;simp (disch:=omega) only[que,coC,go_sem]
  repeat' first
   |(refine cA (c38 _) flk ?_;simp (disch:=omega) only[k1,go_sem])
   |(apply qb;exact rvk;simp only[go_sem];exact qi)
 rw[ine (fun hc=>hc g1)]at hE;simp only[g1]at c38
 by_cases g2:s<0
 ·have k2:(s<0)=True:=eqt g2;rw[ipo (.inl g2)]at hE;rw[hE,ine (by decide),ine (by decide)];refine acO qnh ?_;simp (disch:=omega) only[que,coC,go_sem]
  repeat' first
   |(refine cA (c38 _) flk ?_;simp (disch:=omega) only[z1,z2,k2,go_sem])
   |(apply qb;exact rvk;simp only[go_sem];exact qi)
 have k2:(s<0)=False:=eqf g2
 by_cases g3:(x.sig.length:Int)≤s
 ·have k3:((x.sig.length:Int)≤s)=True:=eqt g3;rw[ipo (.inr g3)]at hE;rw[hE,ine (by decide),ine (by decide)];refine acO qnh ?_;simp (disch:=omega) only[que,coC,go_sem]
  repeat' first
   |(refine cA (c38 _) flk ?_;simp (disch:=omega) only[z1,z2,k2,k3,go_sem])
   |(apply qb;exact rvk;simp only[go_sem];exact qi)
 have k3:((x.sig.length:Int)≤s)=False:=eqf g3;rw[ine (fun hc=>hc.elim g2 g3)]at hE;rw[hE,ipo rfl,ipo rfl];clear hE hN hM;have hok:=qcA g1;have huo:=qb5 hok.un;have hva:vaE x l=0:=qyI g1;have hln:=hu.n;refine acO qnh ?_;simp (disch:=omega) only[que,coC,zu,go_sem]
 repeat' first
  |(refine cA (c38 _) flk ?_;simp (disch:=omega) only[z1,z2,k2,k3,go_sem])
 refine qn (T:=fun u:Nat=>qP 73 [(1,qx l),(2,qV b),(3,.int .i64 s),(4,.op h.length 1 0),(12,.int .i64 (cP (agB l b s) u)),(35,.int .i64 l.length),(36,.int .i64 u)])
  (H:=fun _=>h++ [.mem 1 26 [.str x.sec,strs x.sig,ql x.tok,qp x.col]]) (inv:=fun u=>u≤l.length) (m:=fun u=>l.length-u) 0 (nzl _) (Wk.temps ?_) ?_
 ·(simp only[zu,cP,go_sem,qf,qc,qa,qe];try (repeat' first|(with_reducible apply aiA)|(apply qg;omega)|(apply qd;rfl)|exact qi))
 intro u u1 K hK
 by_cases hul:u<l.length
 ·have r1:((u:Int)<l.length)=True:=eqt om;have r0:(0≤(u:Int))=True:=eqt om;obtain⟨q1,q2,q3,q4⟩:=qga huo hul (s:=s) om om;have hst:cP (agB l b s) (u+1)=cP (agB l b s) u+if agB l b s u=true then 1 else 0:=rfl
  have hag:agB l b s u=decide (((l.getD u default).rds.getD (qc8 (l.getD u default).rds s).toNat default).words=owG b (u:Int) b.length):=rfl;have c63:=fun h=>qAj (l.getD u default) s h (hu.rd u) (hu.sr u)
  have c58:=fun l'=>rdD x l b u (h++l') hz hu hb (hp.app l') hok.co hva hul
  have hwl:=hu.wd u (qc8 (l.getD u default).rds s).toNat;have hol:=qf2 b (u:Int) b.length;rw[q3]at hag hwl;obtain⟨k,hk⟩: ∃k:Nat,qeu (l.getD u default).rds s=(k:Int):=⟨(qeu (l.getD u default).rds s).toNat,om⟩
  rw[hk]at q1 q2 q3;simp only[q3]at c63;rw[hk,itn]at hag hwl;obtain⟨W,hW⟩: ∃W,W=owG b (u:Int) b.length:=⟨_,rfl⟩
  rw[←hW]at hag hol;simp only[←hW]at c58;obtain⟨v,hv⟩: ∃v,v=l.getD u default:=⟨_,rfl⟩
  have ev:=hv.symm;simp only[ev]at c63;rw[ev]at hag hwl q2;have zr:zB v.rds= .sl v.rds.length fun i=>rdC (v.rds.getD i default):=rfl
  have r2:((k:Int)<v.rds.length)=True:=eqt om;have r3:(0≤(k:Int))=True:=eqt om;obtain⟨r,hr⟩: ∃r,r=v.rds.getD k default:=⟨_,rfl⟩
  have er:=hr.symm;rw[er]at hag hwl;have c53:=fun h=>qxE r.words W h om om
  rw[←hag]at c53;unfold coC at c58;unfold unC at c63;obtain⟨C,hC⟩: ∃C,C=cP (agB l b s) u:=⟨_,rfl⟩
  rw[←hC]at hst;have hcl:C≤l.length:=by have:=qqw (agB l b s) u;omega
  cases hA:agB l b s u with
  |true=>
   rw[hA]at hst c53;rw[ipo rfl]at hst;rw[←hC];simp (disch:=omega) only[zu,unC,r0,r1,ev,go_sem]
   repeat' first
    |((first|refine cA (c63 _) ?_ ?_|refine cA (c58 _) ?_ ?_|refine cA (c53 _) ?_ ?_);exact flk;simp (disch:=omega) only[r0,r1,ev,zr,rdC,r2,r3,er,go_sem])
    |with_reducible apply aiA
   all_goals try exact clz
   refine hK _ _ (u+1) hul om (Wk.temps ?_);rw[hst]
   (simp only[zu,go_sem,qf,qc,qa,qe];try (repeat' first|(with_reducible apply aiA)|(apply qg;omega)|(apply qd;rfl)|exact qi))
  |false=>
   rw[hA]at hst c53;rw[ine (by simp),Nat.add_zero]at hst;rw[←hC];simp (disch:=omega) only[zu,unC,r0,r1,ev,go_sem]
   repeat' first
    |((first|refine cA (c63 _) ?_ ?_|refine cA (c58 _) ?_ ?_|refine cA (c53 _) ?_ ?_);exact flk;simp (disch:=omega) only[r0,r1,ev,zr,rdC,r2,r3,er,go_sem])
    |with_reducible apply aiA
   all_goals try exact clz
   refine hK _ _ (u+1) hul om (Wk.temps ?_);rw[hst]
   (simp only[zu,go_sem,qf,qc,qa,qe];try (repeat' first|(with_reducible apply aiA)|(apply qg;omega)|(apply qd;rfl)|exact qi))
 obtain rfl:u=l.length:=by omega
 have r1:((l.length:Int)<l.length)=False:=eqf om;simp (disch:=omega) only[zu,r1,go_sem]
 repeat' first
  |(apply qb;exact rvk;simp only[go_sem];exact qi)
theorem qpO(x:Co)(l:List Un)(b:List Wd)(i:Nat)(h:List AObj)(hu:qca l)(hb:b.length≤1000000)(hi:i<b.length)(hn:x.sig.length≤1000000)(hul:(b.getD i default).unit<(l.length:Int)):
  ACalls Tryz.prog 88 [.agg (coC x),qx l,qV b,.int .i64 (i:Int)] h (qr (soK x l b i)) h:=by
 have zb:qV b= .sl b.length fun i=>wdC (b.getD i default):=rfl
 have zs1: ∀g,valL g .len [strs x.sig]= .int .i64 x.sig.length:=fun _=>rfl
 have zs2: ∀g,okL g .len [strs x.sig]=True:=fun _=>eqt trivial
 have k5:(0≤(i:Int))=True:=eqt om;have k6:((i:Int)<b.length)=True:=eqt om;unfold soK;obtain⟨w,hw⟩: ∃w,w=b.getD i default:=⟨_,rfl⟩
 have ew:=hw.symm;rw[ew]at hul ⊢
 by_cases g1:w.unit<0
 ·have k1:(0≤w.unit)=False:=eqf om;rw[ipo g1];refine acO qvJ ?_;simp (disch:=omega) only[qxV,coC,zb,wdC,k1,k5,k6,ew,go_sem];have eM2:qQ [AV.int .i64 0] 0=qF (qew 0):=rfl;rw[eM2];refine qn (T:=fun s:Nat×Nat×AObj=>qP 38 [(4,.op h.length 1 0),(9,.osl (h.length+2) s.2.1 1 0 (qew s.1).length),(10,.int .i64 s.1)])
   (H:=fun s=>h++ [.mem 1 26 [.str x.sec,strs x.sig,ql x.tok,qp x.col],.emp 1,.mem s.2.1 3 (qF (qew s.1)),s.2.2,.emp 0])
   (inv:=fun s=>s.1≤x.sig.length∧qO [s.2.2] 0=true) (m:=fun s=>x.sig.length-s.1) (0,1,.emp 0) ⟨nzl _,rfl⟩ (Wk.temps ?_) ?_
  ·(simp only[qew,List.range_zero,List.map_nil,lnl,go_sem,qf,qc,qa,qe];try (repeat' first|(with_reducible apply aiA)|(apply qg;omega)|(apply qd;rfl)|exact qi))
  rintro⟨j,v,O⟩ ⟨j1,j2⟩ K hK;simp only at j1 j2 hK;have j2': ∀m,qO (O::m) 0=true:=fun _=>j2
  have hst:=qds j;have hln:=qav j;obtain⟨M,hM⟩: ∃M,M=qew j:=⟨_,rfl⟩
  have eM:=hM.symm;rw[eM]at hst hln;have eC:=qL M;have eT:List.take M.length (qF M)=qF M:=ltl om
  by_cases hj:j<x.sig.length
  ·have r1:((j:Int)<x.sig.length)=True:=eqt om;simp (disch:=omega) only[r1,eM,j2',eC,eT,Nat.mul_one,zs1,zs2,go_sem]
   repeat' first
    |with_reducible apply aiA
   all_goals try exact clz
   have eA:qF M++ [AV.int .i64 (j:Int)]=qF (M++ [(j:Int)]):=by rw[jZ];rfl
   have eD:(AV.int .i64 (j:Int)::List.drop 1 (qQ [AV.int .i64 0] 1))= [AV.int .i64 (j:Int)]:=rfl
   try rw[eD]
   rw[eA,←hst];refine hK _ _ (j+1,v+1,.mem (qq (some O)+1) 3 [.int .i64 (j:Int)]) ⟨hj,rfl⟩ (by simp only;omega) ?_;simp only[hst,lap,lco,lnl];refine Wk.temps ?_
   (simp only[go_sem,qf,qc,qa,qe];try (repeat' first|(with_reducible apply aiA)|(apply qg;omega)|(apply qd;rfl)|exact qi))
  ·obtain rfl:j=x.sig.length:=by omega
   have r1:((x.sig.length:Int)<x.sig.length)=False:=eqf om;simp only[eM];simp (disch:=omega) only[r1,zs1,zs2,go_sem]
   repeat' first
    |(apply qb;exact rvk;simp only[go_sem])
   rw[ipo om];exact j0 _ (fun _=>rfl) rfl
 rw[ine g1];have k1:(0≤w.unit)=True:=eqt om;obtain⟨k,hk⟩: ∃k:Nat,w.unit=(k:Int):=⟨w.unit.toNat,om⟩
 rw[hk]at hul k1;rw[hk,itn];have c110:=fun h=>qpx l b k h hu hb om
 refine acO qvJ ?_;simp (disch:=omega) only[qxV,coC,zb,wdC,k1,k5,k6,ew,hk,go_sem]
 repeat' first
  |(refine cA (c110 _) flk ?_;simp (disch:=omega) only[go_sem])
  |(apply qb;exact rvk;simp only[go_sem];exact qi)
theorem qsn(x:Co)(l:List Un)(b:List Wd)(i:Int)(h:List AObj)(hz:qcM x)(hu:qca l)(hb:b.length≤1000000)(ht: ∀i,(b.getD i default).text.length≤1000000000)(hn:x.sig.length≤1000000)(hp:kh SG h):
  ACalls Tryz.prog 33 [.agg (coC x),qx l,qV b,.int .i64 i] h (.tup [qr (soL x l b i),.int .i64 (soE x l b i)]) h:=by
 have c38:=fun l'=>qn6 x l b (h++l') hz hu om ht (hp.app l')
 have z1: ∀g,valL g .len [qV b]= .int .i64 b.length:=fun _=>rfl
 have z2: ∀g,okL g .len [qV b]=True:=fun _=>eqt trivial
 have nl0: ∀ {f:Nat→List AV},VLe (.sl 0 f) (qr []):=fun {f}=>VLe.sl_eq rfl (fun i hi=>absurd hi (nnz _))
 obtain⟨E,hE⟩: ∃E,E=soE x l b i:=⟨_,rfl⟩
 have hL:soL x l b i=if E=0 then soK x l b i.toNat else []:=by rw[hE];rfl
 rw[hL,←hE];unfold soE at hE;unfold coC at c38
 by_cases g1:pvE x l b=0
 case neg=>
  rw[ipo g1]at hE;rw[hE,ine g1];have k1:(pvE x l b=0)=False:=eqf g1;refine acO qng ?_;simp (disch:=omega) only[qud,coC,go_sem]
  repeat' first
   |(refine cA (c38 _) flk ?_;simp (disch:=omega) only[k1,go_sem])
   |(apply qb;exact rvk;simp only[go_sem])
  refine jn ⟨?_,qi,trivial⟩;rw[ipo (nzl _)];exact nl0
 rw[ine (fun hc=>hc g1)]at hE;simp only[g1]at c38
 by_cases g2:i<0
 ·have k2:(i<0)=True:=eqt g2;rw[ipo (.inl g2)]at hE;rw[hE,ine (by decide)];refine acO qng ?_;simp (disch:=omega) only[qud,coC,go_sem]
  repeat' first
   |(refine cA (c38 _) flk ?_;simp (disch:=omega) only[z1,z2,k2,go_sem])
   |(apply qb;exact rvk;simp only[go_sem])
  refine jn ⟨?_,qi,trivial⟩;rw[ipo (nzl _)];exact nl0
 have k2:(i<0)=False:=eqf g2
 by_cases g3:(b.length:Int)≤i
 ·have k3:((b.length:Int)≤i)=True:=eqt g3;rw[ipo (.inr g3)]at hE;rw[hE,ine (by decide)];refine acO qng ?_;simp (disch:=omega) only[qud,coC,go_sem]
  repeat' first
   |(refine cA (c38 _) flk ?_;simp (disch:=omega) only[z1,z2,k2,k3,go_sem])
   |(apply qb;exact rvk;simp only[go_sem])
  refine jn ⟨?_,qi,trivial⟩;rw[ipo (nzl _)];exact nl0
 have k3:((b.length:Int)≤i)=False:=eqf g3;rw[ine (fun hc=>hc.elim g2 g3)]at hE;rw[hE,ipo rfl];obtain⟨j,rfl⟩: ∃j:Nat,i=(j:Int):=⟨i.toNat,om⟩
 rw[itn];have c84:=fun h=>qpO x l b j h hu hb om hn (qa2 g1 om).2
 unfold coC at c84;refine acO qng ?_;simp (disch:=omega) only[qud,coC,go_sem]
 repeat' first
  |((first|refine cA (c38 _) ?_ ?_|refine cA (c84 _) ?_ ?_);exact flk;simp (disch:=omega) only[z1,z2,k2,k3,go_sem])
  |(apply qb;exact rvk;simp only[go_sem];exact qi)
def unK(x:Co)(l:List Un)(b:List Wd):List Int:=if pvE x l b=0 then qat (fun i=>decide (soK x l b i= [])) b.length else []
theorem qwM(x:Co)(l:List Un)(b:List Wd)(h:List AObj)(hz:qcM x)(hu:qca l)(hb:b.length≤1000000)(ht: ∀i,(b.getD i default).text.length≤1000000000)(hn:x.sig.length≤1000000)(hp:kh SG h):
  ACalls Tryz.prog 35 [.agg (coC x),qx l,qV b] h (.tup [qr (unK x l b),.int .i64 (pvE x l b)]) h:=by
 have c38:=fun l'=>qn6 x l b (h++l') hz hu om ht (hp.app l')
 have z1: ∀g,valL g .len [qV b]= .int .i64 b.length:=fun _=>rfl
 have z2: ∀g,okL g .len [qV b]=True:=fun _=>eqt trivial
 have nl0: ∀ {f:Nat→List AV},VLe (.sl 0 f) (qr []):=fun {f}=>VLe.sl_eq rfl (fun i hi=>absurd hi (nnz _))
 have hL:unK x l b=if pvE x l b=0 then qat (fun i=>decide (soK x l b i= [])) b.length else []:=rfl
 rw[hL];unfold coC at c38
 by_cases g1:pvE x l b=0
 case neg=>
  rw[ine g1];have k1:(pvE x l b=0)=False:=eqf g1;refine acO qvC ?_;simp (disch:=omega) only[qxP,coC,go_sem]
  repeat' first
   |(refine cA (c38 _) flk ?_;simp (disch:=omega) only[k1,go_sem])
   |(apply qb;exact rvk;simp only[go_sem])
  refine jn ⟨?_,qi,trivial⟩;rw[ipo (nzl _)];exact nl0
 rw[g1,ipo rfl];simp only[g1]at c38;obtain⟨p,hpx⟩: ∃p:Nat→Bool,p=fun i=>decide (soK x l b i= []):=⟨_,rfl⟩
 rw[←hpx];refine acO qvC ?_;simp (disch:=omega) only[qxP,coC,go_sem]
 repeat' first
  |(refine cA (c38 _) flk ?_;simp (disch:=omega) only[go_sem])
 have eM2:qQ [AV.int .i64 0] 0=qF (qat p 0):=rfl
 try rw[eM2]
 refine qn (T:=fun s:Nat×Nat×AObj=>qP 38 [(1,qx l),(2,qV b),(3,.op h.length 1 0),(9,.osl (h.length+3) s.2.1 1 0 (qat p s.1).length),(10,.int .i64 s.1)])
  (H:=fun s=>h++ [.mem 1 26 [.str x.sec,strs x.sig,ql x.tok,qp x.col],.emp 1,.emp 0,.mem s.2.1 3 (qF (qat p s.1)),s.2.2,.emp 0])
  (inv:=fun s=>s.1≤b.length∧qO [s.2.2] 0=true) (m:=fun s=>b.length-s.1) (0,1,.emp 0) ⟨nzl _,rfl⟩ (Wk.temps ?_) ?_
 ·(simp only[qat,List.range_zero,List.filter_nil,List.map_nil,lnl,go_sem,qf,qc,qa,qe];try (repeat' first|(with_reducible apply aiA)|(apply qg;omega)|(apply qd;rfl)|exact qi))
 rintro⟨j,v,O⟩ ⟨j1,j2⟩ K hK;simp only at j1 j2 hK;have j2': ∀m,qO (O::m) 0=true:=fun _=>j2
 have hst:=qkf p j;have hln:=qfW p j;obtain⟨M,hM⟩: ∃M,M=qat p j:=⟨_,rfl⟩
 have eM:=hM.symm;rw[eM]at hst hln;have eC:=qL M;have eT:List.take M.length (qF M)=qF M:=ltl om
 by_cases hj:j<b.length
 ·have r1:((j:Int)<b.length)=True:=eqt om;have c88:=fun h=>qpO x l b j h hu hb hj hn (qa2 g1 hj).2
  have hpj:p j=decide (soK x l b j= []):=by rw[hpx]
  obtain⟨S,hS⟩: ∃S,S=soK x l b j:=⟨_,rfl⟩
  rw[←hS]at hpj;simp only[←hS]at c88;unfold coC at c88;have zS1: ∀g,valL g .len [qr S]= .int .i64 S.length:=fun _=>rfl
  have zS2: ∀g,okL g .len [qr S]=True:=fun _=>eqt trivial
  by_cases g4:S= []
  ·have k4:((S.length:Int)=0)=True:=eqt (by rw[g4];rfl);rw[dqt g4]at hpj;simp only[hpj,if_true]at hst;simp (disch:=omega) only[r1,eM,z1,z2,go_sem]
   repeat' first
    |(refine cA (c88 _) flk ?_;simp (disch:=omega) only[j2',eC,eT,Nat.mul_one,zS1,zS2,k4,go_sem])
    |with_reducible apply aiA
   all_goals try exact clz
   have eA:qF M++ [AV.int .i64 (j:Int)]=qF (M++ [(j:Int)]):=by rw[jZ];rfl
   have eD:(AV.int .i64 (j:Int)::List.drop 1 (qQ [AV.int .i64 0] 1))= [AV.int .i64 (j:Int)]:=rfl
   try rw[eD]
   rw[eA,←hst];refine hK _ _ (j+1,v+1,.mem (qq (some O)+1) 3 [.int .i64 (j:Int)]) ⟨hj,rfl⟩ (by simp only;omega) ?_;simp only[hst,lap,lco,lnl];refine Wk.temps ?_
   (simp only[go_sem,qf,qc,qa,qe];try (repeat' first|(with_reducible apply aiA)|(apply qg;omega)|(apply qd;rfl)|exact qi))
  ·have k4:((S.length:Int)=0)=False:=eqf (fun hc=>g4 (List.length_eq_zero_iff.1 om));rw[dqf g4]at hpj;simp only[hpj,Bool.false_eq_true,if_false,lan]at hst;simp (disch:=omega) only[r1,eM,z1,z2,go_sem]
   repeat' first
    |(refine cA (c88 _) flk ?_;simp (disch:=omega) only[zS1,zS2,k4,go_sem])
   refine hK _ _ (j+1,v,O) ⟨hj,j2⟩ (by simp only;omega) ?_;simp only[hst];refine Wk.temps ?_
   (simp only[go_sem,qf,qc,qa,qe];try (repeat' first|(with_reducible apply aiA)|(apply qg;omega)|(apply qd;rfl)|exact qi))
 ·obtain rfl:j=b.length:=by omega
  have r1:((b.length:Int)<b.length)=False:=eqf om;simp only[eM];simp (disch:=omega) only[r1,z1,z2,go_sem]
  repeat' first
   |(apply qb;exact rvk;simp only[go_sem])
  rw[ipo om];exact jn ⟨j0 _ (fun _=>rfl) rfl,qi,trivial⟩
def inS(S:List Int)(s:Int)(i:Nat):Bool:=decide (S.getD i 0=s)
def agS(l:List Un)(b:List Wd)(s:Int):Nat→Nat
 |0=>0
 |k+1=>agS l b s k+cP (inS (hsK l b k) s) (hsK l b k).length
theorem qjY{L:List Rd}{r:Nat}(hr:r<L.length):L.getD r default∈L:=by rw[gdqA,zY hr];exact List.getElem_mem hr
theorem qi3{p:Nat→Bool}: ∀ {n:Nat},(∀i,i<n→p i=false)→cP p n=0:=by
 intro n
 induction n with
 |zero=>intro _;rfl
 |succ n ih=>
  intro h;show cP p n+_=0;rw[ih fun i hi=>h i om,h n (Nat.lt_succ_self n)];rfl
theorem quh{p:Nat→Bool}{n j:Nat}(hj:j<n)(h1:p j=true)(h2: ∀i,i<n→i≠j→p i=false):cP p n=1:=by
 induction n with
 |zero=>exact absurd hj (nnz _)
 |succ n ih=>
  show cP p n+_=1
  by_cases e:j=n
  ·subst e;rw[qi3 fun i hi=>h2 i om om,h1];rfl
  ·rw[ih om (fun i hi=>h2 i om),h2 n (Nat.lt_succ_self n) (fun hc=>e hc.symm)];rfl
theorem qqP{S:List Int}{s:Int}(hS:S.Pairwise (· < ·)):cP (inS S s) S.length=if s∈S then 1 else 0:=by
 have hg: ∀i (hi:i<S.length),S.getD i 0=S[i]:=fun i hi=>by rw[gdqA,zY hi];rfl
 by_cases h:s∈S
 ·rw[ipo h];obtain⟨j,hj,e⟩:=List.getElem_of_mem h;refine quh hj (by unfold inS;rw[hg j hj,e];exact dqt rfl) (fun i hi ne=> ?_);unfold inS;rw[hg i hi];refine dqf (fun hc=> ?_);have hp:=List.pairwise_iff_getElem.1 hS;rcases Nat.lt_or_gt_of_ne ne with h1|h1
  ·have:=hp i j hi hj h1;omega
  ·have:=hp j i hj hi h1;omega
 ·rw[ine h];refine qi3 fun i hi=> ?_
  unfold inS;rw[hg i hi];exact dqf (fun hc=>h (hc▸List.getElem_mem hi))
theorem qtf{x:Co}{l:List Un}{b:List Wd}(ho:qsY x l){u:Nat}(hul:u<l.length){s:Int}(h1:0≤s)(h2:s<x.sig.length):cP (inS (hsK l b u) s) (hsK l b u).length=if agB l b s u=true then 1 else 0:=by
 obtain⟨q1,q2,q3,q4⟩:=qga ho hul h1 h2;have hmem:l.getD u default∈l:=by rw[gdqA,zY hul];exact List.getElem_mem hul
 have hr:=(ho.rg _ hmem).2.2.2;have hri:qev (l.getD u default).rds x.sig.length:=by rw[hr];exact qda _ _ _
 have hrh:=qc9 x (l.getD u default).frm.toNat (l.getD u default).to.toNat;rw[←hr]at hrh;have hag:agB l b s u=decide (((l.getD u default).rds.getD (qc8 (l.getD u default).rds s).toNat default).words=owG b (u:Int) b.length):=rfl;rw[q3]at hag;have hsp: ∀r,r<(l.getD u default).rds.length→((l.getD u default).rds.getD r default).src.Pairwise (· < ·):=fun r hr=>(hri.src ((l.getD u default).rds.getD r default) (qjY hr)).1
 have hd:hsK l b u=if 0≤brK l b u then ((l.getD u default).rds.getD (brK l b u).toNat default).src else []:=rfl
 have hbr:brK l b u=qbi (fun r=>decide (((l.getD u default).rds.getD r default).words=owG b (u:Int) b.length)) (l.getD u default).rds.length 0:=rfl;obtain⟨W,hW⟩: ∃W,W=owG b (u:Int) b.length:=⟨_,rfl⟩
 rw[←hW]at hag hbr;obtain⟨L,hL⟩: ∃L,L=(l.getD u default).rds:=⟨_,rfl⟩
 rw[←hL]at q1 q2 q4 hag hd hbr hri hrh;simp only[←hL]at hsp;obtain⟨k,hk⟩: ∃k:Nat,qeu L s=(k:Int):=⟨(qeu L s).toNat,om⟩
 rw[hk]at q2 q4 hag;rw[itn]at q4 hag;have q2:k<L.length:=by omega
 rw[hag];rcases zm (fun r=>decide ((L.getD r default).words=W)) L.length with⟨i,i1,i2,_,i4⟩|⟨i1,i2⟩
 ·have i2:=of_decide_eq_true i2;rw[←hbr]at i4;rw[i4,ipo om,itn]at hd;rw[hd,qqP (hsp i i1)]
  by_cases hm:s∈(L.getD i default).src
  ·have e1:=hrh.wd i i1 s hm;have e2:=hrh.wd k q2 s q4;rw[ipo hm,ipo (by rw[e2,←e1,i2];exact dqt rfl)]
  ·rw[ine hm,ine];intro hc;have hc:=of_decide_eq_true hc;have e:k=i:=by
    rcases Nat.lt_trichotomy k i with h|h|h
    ·exact absurd (hc.trans i2.symm) (hri.ne k i h i1)
    ·exact h
    ·exact absurd (i2.trans hc.symm) (hri.ne i k h q2)
   subst e;exact hm q4
 ·rw[←hbr]at i2;rw[ine om]at hd;rw[hd,ine (fun hc=>absurd (i1 k q2) (by rw[hc];simp))];rfl
theorem qte{x:Co}{l:List Un}{b:List Wd}(ho:qsY x l){s:Int}(h1:0≤s)(h2:s<x.sig.length): ∀n,n≤l.length→agS l b s n=cP (agB l b s) n:=by
 intro n
 induction n with
 |zero=>intro _;rfl
 |succ n ih=>
  intro hn;show agS l b s n+_=cP (agB l b s) n+_;rw[ih om,qtf ho om h1 h2]
theorem qdO{x:Co}{l:List Un}{b:List Wd}(ho:qsY x l){u:Nat}(hul:u<l.length):(hsK l b u).length≤x.sig.length:=by
 have hmem:l.getD u default∈l:=by rw[gdqA,zY hul];exact List.getElem_mem hul
 have hri:qev (l.getD u default).rds x.sig.length:=by rw[(ho.rg _ hmem).2.2.2];exact qda _ _ _
 have hlt:=qcS l b u;unfold hsK;split
 ·rename_i h0;have hr:(brK l b u).toNat<(l.getD u default).rds.length:=by omega
  have h1:=hri.src ((l.getD u default).rds.getD (brK l b u).toNat default) (qjY hr);have h2:=qcQ (hi:=((x.sig.length:Nat):Int)) (lo:=0) h1.1 h1.2;omega
 ·exact nzl _
theorem qth(x:Co)(l:List Un)(b:List Wd)(s:Int)(h:List AObj)(hz:qcM x)(hu:qca l)(hb:b.length≤1000000)(ht: ∀i,(b.getD i default).text.length≤1000000000)(hn:x.sig.length≤1000000)(hp:kh SG h):
  ACalls Tryz.prog 37 [.agg (coC x),qx l,qV b,.int .i64 s] h (.tup [.int .i64 (agN x l b s),.int .i64 (agM x l b s),.int .i64 (agE x l b s)]) h:=by
 have c38:=fun l'=>qn6 x l b (h++l') hz hu om ht (hp.app l')
 have z1: ∀g,valL g .len [strs x.sig]= .int .i64 x.sig.length:=fun _=>rfl
 have z2: ∀g,okL g .len [strs x.sig]=True:=fun _=>eqt trivial
 have z3: ∀g,valL g .len [qx l]= .int .i64 l.length:=fun _=>rfl
 have z4: ∀g,okL g .len [qx l]=True:=fun _=>eqt trivial
 obtain⟨E,hE⟩: ∃E,E=agE x l b s:=⟨_,rfl⟩
 have hN:agN x l b s=if E=0 then (cP (agB l b s) l.length:Int) else 0:=by rw[hE];rfl
 have hM:agM x l b s=if E=0 then (l.length:Int) else 0:=by rw[hE];rfl
 rw[hN,hM,←hE];unfold agE at hE;unfold coC at c38
 by_cases g1:pvE x l b=0
 case neg=>
  rw[ipo g1]at hE;rw[hE,ine g1,ine g1];have k1:(pvE x l b=0)=False:=eqf g1;refine acO qni ?_;simp (disch:=omega) only[quf,coC,go_sem]
  repeat' first
   |(refine cA (c38 _) flk ?_;simp (disch:=omega) only[k1,go_sem])
   |(apply qb;exact rvk;simp only[go_sem];exact qi)
 rw[ine (fun hc=>hc g1)]at hE;simp only[g1]at c38
 by_cases g2:s<0
 ·have k2:(s<0)=True:=eqt g2;rw[ipo (.inl g2)]at hE;rw[hE,ine (by decide),ine (by decide)];refine acO qni ?_;simp (disch:=omega) only[quf,coC,go_sem]
  repeat' first
   |(refine cA (c38 _) flk ?_;simp (disch:=omega) only[z1,z2,k2,go_sem])
   |(apply qb;exact rvk;simp only[go_sem];exact qi)
 have k2:(s<0)=False:=eqf g2
 by_cases g3:(x.sig.length:Int)≤s
 ·have k3:((x.sig.length:Int)≤s)=True:=eqt g3;rw[ipo (.inr g3)]at hE;rw[hE,ine (by decide),ine (by decide)];refine acO qni ?_;simp (disch:=omega) only[quf,coC,go_sem]
  repeat' first
   |(refine cA (c38 _) flk ?_;simp (disch:=omega) only[z1,z2,k2,k3,go_sem])
   |(apply qb;exact rvk;simp only[go_sem];exact qi)
 have k3:((x.sig.length:Int)≤s)=False:=eqf g3;rw[ine (fun hc=>hc.elim g2 g3)]at hE;rw[hE,ipo rfl,ipo rfl];clear hE hN hM;have hok:=qcA g1;have huo:=qb5 hok.un;have hln:=hu.n;have hAt:=qte (b:=b) huo (s:=s) om om;rw[←hAt l.length (nlr _)];have hAl: ∀n,n≤l.length→agS l b s n≤l.length:=fun n hn=>by have:=qqw (agB l b s) n;rw[hAt n hn];omega
 refine acO qni ?_;simp (disch:=omega) only[quf,coC,go_sem]
 repeat' first
  |(refine cA (c38 _) flk ?_;simp (disch:=omega) only[z1,z2,k2,k3,go_sem])
 refine qn (T:=fun u:Nat=>qP 59 [(1,qx l),(2,qV b),(3,.int .i64 s),(12,.int .i64 (agS l b s u)),(13,.int .i64 u)])
  (H:=fun _=>h++ [.mem 1 26 [.str x.sec,strs x.sig,ql x.tok,qp x.col]]) (inv:=fun u=>u≤l.length) (m:=fun u=>l.length-u) 0 (nzl _) (Wk.temps ?_) ?_
 ·(simp only[agS,go_sem,qf,qc,qa,qe];try (repeat' first|(with_reducible apply aiA)|(apply qg;omega)|(apply qd;rfl)|exact qi))
 intro u u1 K hK
 by_cases hul:u<l.length
 ·have r1:((u:Int)<l.length)=True:=eqt om;have c110:=fun h=>qpx l b u h hu hb hul
  have hsh:=qdO (b:=b) huo hul;have hst:agS l b s (u+1)=agS l b s u+cP (inS (hsK l b u) s) (hsK l b u).length:=rfl;have hcl:=hAl u om;obtain⟨S,hS⟩: ∃S,S=hsK l b u:=⟨_,rfl⟩
  rw[←hS]at hst hsh;simp only[←hS]at c110;obtain⟨C,hC⟩: ∃C,C=agS l b s u:=⟨_,rfl⟩
  rw[←hC]at hst hcl;rw[←hC];have zS:qr S= .sl S.length fun i=> [.int .i64 (S.getD i 0)]:=rfl
  simp (disch:=omega) only[r1,z3,z4,go_sem]
  repeat' first
   |(refine cA (c110 _) flk ?_;simp (disch:=omega) only[go_sem])
  refine qn (T:=fun i:Nat=>qP 59 [(1,qx l),(2,qV b),(3,.int .i64 s),(12,.int .i64 ((C+cP (inS S s) i:Nat):Int)),(13,.int .i64 u),(14,qr S),(15,.int .i64 i)])
   (H:=fun _=>h++ [.mem 1 26 [.str x.sec,strs x.sig,ql x.tok,qp x.col]]) (inv:=fun i=>i≤S.length) (m:=fun i=>S.length-i) 0 (nzl _) (Wk.temps ?_) ?_
  ·(simp only[cP,Nat.add_zero,go_sem,qf,qc,qa,qe];try (repeat' first|(with_reducible apply aiA)|(apply qg;omega)|(apply qd;rfl)|exact qi))
  intro i i1 K2 hK2
  by_cases hi:i<S.length
  ·have t1:((i:Int)<S.length)=True:=eqt om;have t0:(0≤(i:Int))=True:=eqt om;have hs2:cP (inS S s) (i+1)=cP (inS S s) i+if inS S s i=true then 1 else 0:=rfl
   have hc2:=qqw (inS S s) i;have hin:inS S s i=decide (S.getD i 0=s):=rfl;obtain⟨D,hD⟩: ∃D,D=cP (inS S s) i:=⟨_,rfl⟩
   rw[←hD]at hs2 hc2;rw[←hD];obtain⟨w,hw⟩: ∃w,w=S.getD i 0:=⟨_,rfl⟩
   have ew:=hw.symm;rw[ew]at hin
   by_cases g:w=s
   ·have q:(w=s)=True:=eqt g;rw[dqt g]at hin;rw[hin,ipo rfl]at hs2;simp (disch:=omega) only[t0,t1,zS,ew,q,go_sem]
    repeat' first
     |with_reducible apply aiA
    all_goals try exact clz
    refine hK2 _ _ (i+1) hi om (Wk.temps ?_);rw[hs2]
    (simp only[zS,go_sem,qf,qc,qa,qe];try (repeat' first|(with_reducible apply aiA)|(apply qg;omega)|(apply qd;rfl)|exact qi))
   ·have q:(w=s)=False:=eqf g;rw[dqf g]at hin;rw[hin,ine (by simp),Nat.add_zero]at hs2;simp (disch:=omega) only[t0,t1,zS,ew,q,go_sem]
    repeat' first
     |with_reducible apply aiA
    all_goals try exact clz
    refine hK2 _ _ (i+1) hi om (Wk.temps ?_);rw[hs2]
    (simp only[zS,go_sem,qf,qc,qa,qe];try (repeat' first|(with_reducible apply aiA)|(apply qg;omega)|(apply qd;rfl)|exact qi))
  obtain rfl:i=S.length:=by omega
  have t1:((S.length:Int)<S.length)=False:=eqf om;rw[←hst];simp (disch:=omega) only[t1,zS,go_sem];refine hK _ _ (u+1) hul om (Wk.temps ?_)
  (simp only[go_sem,qf,qc,qa,qe];try (repeat' first|(with_reducible apply aiA)|(apply qg;omega)|(apply qd;rfl)|exact qi))
 obtain rfl:u=l.length:=by omega
 have r1:((l.length:Int)<l.length)=False:=eqf om;simp (disch:=omega) only[r1,z3,z4,go_sem]
 repeat' first
  |(apply qb;exact rvk;simp only[go_sem];exact qi)
end RC
end
section
open Go Go.Proofs AF
def qrt:List Nat:= [109]
def qxO:C:=
 ((C.ops [O1 3 (.box 0 26) 0,ON 6 (.nilo 1 1 3) [],MC 7 (i6 0)]).seq (((C.ops [O1 12 (.load (some 4)) 3,MV 13 1,MV 14 2,ON 15 (.call 38 true) [.t 12,.t 13,.t 14],MV 8
 15]).seq ((C.ops [MV 16 8,BC 17 .neq 16 (i6 0)]).seq (C.cond (.t 17) ((C.ops [MV 18 8,ON 6 (.nilo 1 1 3) [],MV 7 18]).seq C.ret) C.skip))).seq ((C.ops [⟨some 9,none,.alloc 2
 62 [.nl],[]⟩]).seq (((C.ops [MV 19 1,O1 20 .len 19,MC 21 (i6 0)]).seq (C.block 0 ((C.ops [BI 22 .lss 21 20]).seq ((C.cond (.t 22) C.skip (C.exit 0)).seq ((C.block 1 ((C.ops [MV
 23 21,MV 10 23]).seq (((C.ops [MV 24 1,MV 25 2,MV 26 10,ON 27 (.call 107 true) [.t 24,.t 25,.t 26],BC 28 .geq 27 (i6 0)]).seq (C.cond (.t 28) (C.exit 1) C.skip)).seq ((C.ops
 [MV 29 2,MV 30 10,O2 31 (.call 108 true) 29 30]).seq (C.block 2 (C.range (.t 31) [32,33] (C.ops [MV 11 32]) (C.block 3 (C.ops [LD 34 9,MV 35 11,⟨some 36,none,.bslc 3 1 1 3
 [i6 0] [(0,1)],[.t 35]⟩,O2 37 (.app 4 1 3 8) 34 36,ST 1 9 37])))))))).seq (C.ops [BC 38 .add 21 (i6 1),MV 21 38])))).loop)).seq ((C.ops [LD 39 9,O1 40 (.call 109 false)
 39]).seq ((C.ops [LD 41 9,MV 6 41,MC 7 (i6 0)]).seq
 C.ret))))))
theorem qvB:qH Tryz.prog 34 42 5 [RV.tmp 6,RV.tmp 7] qxO:=fi Tryz.f34 [3,6,9,36,37] qrt []
end
section
open Go Go.Proofs AF HY LN
namespace RC
theorem qwI(k v:Nat)(h:List AObj)(hk:getO k h=some (.emp v)):ACalls Tryz.prog 109 [.osl k v 1 0 0] h (.tup []) h:=by
 refine⟨qpE Tryz.func109 (by kernel_rfl) (by kernel_rfl),fun w σ xs H hv=> ?_⟩;obtain⟨x,rfl,hx⟩:=hv.one;obtain⟨o,ho,_,p3⟩:=qgn hx;have hob:h[k]? =some (.emp v):=by unfold getO at hk;exact hk
 have hor:=H.obj k _ o hob ho;have hov:o.ver=v:=by first|exact hor|exact hor.1|exact hor.1.symm|exact hor.symm
 have hx2: ∃p cap,x= .slice p 0 cap:=by
  rcases p3 hov with⟨_,_,_,e⟩|⟨b,cap,_,e,_⟩
  ·exact⟨_,_,e⟩
  ·exact⟨_,_,e⟩
 obtain⟨p,cap,rfl⟩:=hx2;refine (callsIn_wide.2 (calls_of_every_depth fun D=>AnyS.slices_Sort_int_none_alone Tryz.laysS189 D p cap w)).mono ?_;rintro e w' ⟨rfl,rfl⟩;exact⟨_,σ,rfl,H,.imm (.tup rfl (fun i c x hc=>by simp at hc)),Ext.refl _ _⟩
def wdN(b:List Wd)(u n:Nat):List Int:=flG (inU b (u:Int)) (fun i=>(i:Int)) n
def usG(l:List Un)(b:List Wd):Nat→List Int
 |0=> []
 |u+1=>usG l b u++if brK l b u<0 then wdN b u b.length else []
theorem qw8(b:List Wd)(u n:Nat):(wdX b (u:Int) n).length=(wdN b u n).length∧ ∀i (hi:i<(wdX b (u:Int) n).length),∃(j:Nat) (w:Wd),(wdX b (u:Int) n)[i]= [.int .i64 (j:Int),.agg (wdC w)]∧(wdN b u n)[i]? =some (j:Int)∧j<n∧w=b.getD j default:=by
 refine⟨qeL _ _ _ _,fun i hi=> ?_⟩;obtain⟨r,r1,r2,r3,r4⟩:=qo8 (p:=inU b (u:Int)) (g:=fun i=>([.int .i64 (i:Int),.agg (wdC (b.getD i default))]:List AV)) (k:=fun i=>(i:Int)) (n:=n) (i:=i) hi;exact⟨r,b.getD r default,r3,r4,r1,rfl⟩
theorem qw9(b:List Wd)(u:Nat): ∀n,(wdN b u n).length≤n:=by
 intro n
 induction n with
 |zero=>exact nlr _
 |succ n ih=>
  have e:wdN b u (n+1)=wdN b u n++if inU b (u:Int) n=true then [(n:Int)] else []:=rfl
  rw[e,lap];split
  ·simp only[lco,lnl];omega
  ·simp only[lnl];omega
structure QZ where
 i:Nat
 w:Nat
 O:AObj
theorem qnE(s:Int)(n v:Nat)(ty:TypeId):kT n (.mem v ty [.int .i64 s]):=by
 intro c hc;rw[List.mem_singleton]at hc;rw[hc];rfl
theorem qke(x:Co)(n v:Nat)(ty:TypeId):kT n (.mem v ty [.str x.sec,strs x.sig,ql x.tok,qp x.col]):=by
 intro c hc;simp only[List.mem_cons,List.not_mem_nil,or_false]at hc;rcases hc with rfl|rfl|rfl|rfl<;>rfl
theorem qwL(x:Co)(l:List Un)(b:List Wd)(h:List AObj)(hz:qcM x)(hu:qca l)(hb:b.length≤1000000)(ht: ∀i,(b.getD i default).text.length≤1000000000)(hbd:(usG l b l.length).length≤1000000)(hp:kh SG h):
  ACalls Tryz.prog 34 [.agg (coC x),qx l,qV b] h (.tup [qr (if pvE x l b=0 then qgi (usG l b l.length) else []),.int .i64 (pvE x l b)]) h:=by
 have c38:=fun l'=>pvP x l b (h++l') hz hu om ht (hp.app l')
 have hln:=hu.n;have nl0:VLe AV.nl (qr []):=qbI;unfold coC at c38
 by_cases g1:pvE x l b=0
 case neg=>
  rw[ine g1];have k1:(pvE x l b=0)=False:=eqf g1;refine acO qvB ?_;simp (disch:=omega) only[qxO,coC,go_sem]
  repeat' first
   |(refine cA (c38 _) flk ?_;simp (disch:=omega) only[k1,go_sem])
   |(apply qb;exact rvk;simp only[go_sem])
  exact jn ⟨nl0,qi,trivial⟩
 rw[g1,ipo rfl];simp only[g1]at c38;refine acO qvB ?_;simp (disch:=omega) only[qxO,coC,go_sem]
 repeat' first
  |(refine cA (c38 _) flk ?_;simp (disch:=omega) only[go_sem])
  |with_reducible apply aiA
 have z3: ∀g,valL g .len [qx l]= .int .i64 l.length:=fun _=>rfl
 have z4: ∀g,okL g .len [qx l]=True:=fun _=>eqt trivial
 simp (disch:=omega) only[z4,go_sem];refine qn (T:=fun s:QZ=>qP 42 [(1,qx l),(2,qV b),(9,.op (h.length+2) 1 0),(20,.int .i64 l.length),(21,.int .i64 s.i)])
  (H:=fun s=>h++ [.mem 1 26 [.str x.sec,strs x.sig,ql x.tok,qp x.col],.emp 1,.mem 1 62 [.osl (h.length+4) s.w 1 0 (usG l b s.i).length],s.O,jL s.w 3 (qF (usG l b s.i))])
  (inv:=fun s=>s.i≤l.length∧qO [s.O] 0=true∧ ∀n,kT n s.O) (m:=fun s=>l.length-s.i) ⟨0,0,.emp 0⟩ ⟨nzl _,rfl,fun _=>trivial⟩
  (Wk.trans (Wk.ownNil (j:=h.length+2) (i:=0) (k:=h.length+4) (v:=1) (ty:=62) (cs:= [.nl]) (ve:=0) (sz:=1) ?m1 rfl ?m2) ?m5) ?m6
 case m1=>simp only[go_sem]
 case m2=>simp only[go_sem]
 case m5=>
  have eo:jL 0 3 (qF (usG l b 0))= .emp 0:=rfl;have es:(usG l b 0).length=0:=rfl;simp only[go_sem,eo,es,List.set_cons_zero];refine Wk.temps ?_
  (simp only[go_sem,qf,qc,qa,qe];try (repeat' first|(with_reducible apply aiA)|(apply qg;omega)|(apply qd;rfl)|exact qi))
 case m6=>
 rintro⟨u,w0,O⟩ ⟨j1,j2,j3⟩ K hK;simp only at j1 j2 j3 hK;have j2': ∀m,qO (O::m) 0=true:=fun _=>j2
 by_cases hul:u<l.length
 ·have r1:((u:Int)<l.length)=True:=eqt om;have c107:=fun h=>qpI l b u h hu hb hul
  have hst:usG l b (u+1)=usG l b u++if brK l b u<0 then wdN b u b.length else []:=rfl
  obtain⟨r,hr⟩: ∃r,r=brK l b u:=⟨_,rfl⟩
  rw[←hr]at hst;simp only[←hr]at c107
  by_cases g2:r<0
  case neg=>
   have k2:(0≤r)=True:=eqt om;rw[ine g2,lan]at hst;simp (disch:=omega) only[r1,go_sem]
   repeat' first
    |(refine cA (c107 _) flk ?_;simp (disch:=omega) only[k2,go_sem])
   refine hK _ _ ⟨u+1,w0,O⟩ ⟨hul,j2,j3⟩ (by simp only;omega) ?_;simp only[hst];refine Wk.temps ?_
   (simp only[go_sem,qf,qc,qa,qe];try (repeat' first|(with_reducible apply aiA)|(apply qg;omega)|(apply qd;rfl)|exact qi))
  have k2:(0≤r)=False:=eqf om;rw[ipo g2]at hst;have c108:=fun h=>qzC b (u:Int) h
  obtain⟨hxl,hxg⟩:=qw8 b u b.length;obtain⟨N,hN⟩: ∃N,N=wdN b u b.length:=⟨_,rfl⟩
  rw[←hN]at hxl hst;simp only[←hN]at hxg;have hNl:N.length≤b.length:=by rw[hN];exact qw9 _ _ _
  obtain⟨M,hM⟩: ∃M,M=usG l b u:=⟨_,rfl⟩
  rw[←hM]at hst;rw[←hM];have hMl:M.length≤1000000:=by
   have hmono: ∀d,(usG l b u).length≤(usG l b (u+d)).length:=fun d=>by
    induction d with
    |zero=>exact nlr _
    |succ d ih=>
     have e:usG l b (u+(d+1))=usG l b (u+d)++if brK l b (u+d)<0 then wdN b (u+d) b.length else []:=rfl
     rw[e,lap];omega
   have:=hmono (l.length-u)
   rw[show u+(l.length-u)=l.length by omega]at this;rw[hM];omega
  simp (disch:=omega) only[r1,go_sem]
  repeat' first
   |((first|refine cA (c107 _) ?_ ?_|refine cA (c108 _) ?_ ?_);exact flk;simp (disch:=omega) only[k2,go_sem])
  refine qap (xs:=wdX b (u:Int) b.length) (itW b (u:Int) om) ?e0
   (S:=fun i hh=> ∃w O,qO [O] 0=true∧(∀n,kT n O)∧hh=h++ [.mem 1 26 [.str x.sec,strs x.sig,ql x.tok,qp x.col],.emp 1,.mem 1 62 [.osl (h.length+4) w 1 0 (M.length+i)],O,jL w 3 (qF (M++N.take i))])
   (E:=fun _ _=>False) ?e1 (fun _ _ h=>h.elim) ?e2 ?e3 ?e4 ?e5 (fun _ _ h=>h.elim)
  case e0=>
   intro x hx;obtain⟨i,hi,e⟩:=List.getElem_of_mem hx;obtain⟨j,w,e2,_⟩:=hxg i hi;rw[←e,e2];rfl
  case e1=>
   rintro i hh ⟨w,O1,_,l1,rfl⟩;refine LowI.app rfl (fun o ho=> ?_);simp only[List.mem_cons,List.not_mem_nil,or_false]at ho;rcases ho with rfl|rfl|rfl|rfl|rfl
   ·right;exact⟨qke _ _ _ _,qke _ _ _ _⟩
   ·right;exact⟨trivial,trivial⟩
   ·right;constructor<;>(intro c hc;simp only[List.mem_cons,List.not_mem_nil,or_false]at hc;rcases hc with rfl;simp[zT])
   ·right;exact⟨l1 _,l1 _⟩
   ·right;exact⟨qbD (qbW _ _),qbD (qbW _ _)⟩
  case e2=>
   refine⟨w0,O,j2,j3,?_⟩;simp only[List.take_zero,lan,Nat.add_zero]
  case e3=>
   have lu: ∀n,zT n (qx l)=true:=fun _=>rfl
   have lw: ∀n,zT n (qV b)=true:=fun _=>rfl
   simp[zT,zT.lowVs,lu,lw]
   try omega
  case e4=>
   rintro i hh tl LI TS hi ⟨w,O1,p1,l1,rfl⟩ hlen K4 K5 hK4 hNx hR' hX;obtain⟨j,wd,e2,e3,_,_⟩:=hxg i hi;rw[e2];rw[hxl]at hi;have p1': ∀m,qO (O1::m) 0=true:=fun _=>p1
   have hTk:N.take (i+1)=N.take i++ [(j:Int)]:=by rw[List.take_add_one,e3];rfl
   have hTl:(N.take i).length=i:=by rw[List.length_take];omega
   have eVl:=qL (M++N.take i);rw[lap,hTl]at eVl;have eVk:List.take (M.length+i) (qF (M++N.take i))=qF (M++N.take i):=ltl om;have eVn:qF (M++N.take (i+1))=qF (M++N.take i)++ [.int .i64 (j:Int)]:=by rw[hTk,←List.append_assoc,jZ (M++N.take i)];rfl
   simp only[qbw];simp (disch:=omega) only[List.append_assoc,go_sem];refine hK4 _ _ (h++ [.mem 1 26 [.str x.sec,strs x.sig,ql x.tok,qp x.col],.emp 1,.mem 1 62 [.osl (h.length+4) w 1 0 (M.length+i)],O1,jL w 3 (qF (M++N.take i))]) (by simp) (by simp) ?_;simp (disch:=omega) only[List.append_assoc,p1',eVl,eVk,Nat.mul_one,go_sem]
   repeat' first
    |with_reducible apply aiA
   all_goals try exact clz
   refine hNx _ _ (h++ [.mem 1 26 [.str x.sec,strs x.sig,ql x.tok,qp x.col],.emp 1,.mem 1 62 [.osl (h.length+4) (w+1) 1 0 (M.length+(i+1))],.mem (qq (some O1)+1) 3 [.int .i64 (j:Int)],jL (w+1) 3 (qF (M++N.take (i+1)))]) (by rw[eVn,List.append_assoc];rfl) (by simp)
    ⟨w+1,_,rfl,fun n=>qnE _ _ _ _,rfl⟩
  case e5=>
   rintro hh ⟨w,O1,p1,l1,rfl⟩;rw[hxl,List.take_length];simp (disch:=omega) only[go_sem];refine hK _ _ ⟨u+1,w,O1⟩ ⟨hul,p1,l1⟩ (by simp only;omega) ?_;simp only[hst,lap];refine Wk.temps ?_
   (simp only[go_sem,qf,qc,qa,qe];try (repeat' first|(with_reducible apply aiA)|(apply qg;omega)|(apply qd;rfl)|exact qi))
 obtain rfl:u=l.length:=by omega
 have r1:((l.length:Int)<l.length)=False:=eqf om;obtain⟨M,hM⟩: ∃M,M=usG l b l.length:=⟨_,rfl⟩
 rw[←hM]at hbd ⊢;have eC:=qL (qgi M);rw[qaf]at eC
 by_cases g0:M= []
 ·subst g0;have eo:jL w0 3 (qF [])= .emp w0:=rfl;rw[eo];simp (disch:=omega) only[r1,go_sem]
  repeat' first
   |with_reducible apply aiA
  all_goals try exact clz
  refine qZ (qwI (h.length+4) w0 _ (by simp only[go_sem])) (by exact flk) ?_;simp (disch:=omega) only[go_sem]
  repeat' first
   |(apply qb;exact rvk;simp only[go_sem])
   |with_reducible apply aiA
  all_goals try exact clz
  have e0:qgi []= []:=List.length_eq_zero_iff.1 (by rw[qaf];rfl);rw[e0];exact jn ⟨nl0,qi,trivial⟩
 ·have eo:jL w0 3 (qF M)= .mem w0 3 (qF M):=kr (fun e=>g0 (qdT.1 e));rw[eo];simp (disch:=omega) only[r1,go_sem]
  repeat' first
   |with_reducible apply aiA
  all_goals try exact clz
  refine qZ (qAA M (h.length+4) w0 M.length _ rfl (by simp only[go_sem]) om) (by exact flk) ?_;simp (disch:=omega) only[go_sem]
  repeat' first
   |(apply qb;exact rvk;simp only[go_sem])
   |with_reducible apply aiA
  all_goals try exact clz
  rw[ipo om];exact jn ⟨j0 _ (fun _=>rfl) (by rw[qaf]),qi,trivial⟩
theorem qdp{b:List Wd}{u:Nat}{x:Int}: ∀n,x∈wdN b u n↔ ∃j:Nat,j<n∧(b.getD j default).unit=(u:Int)∧x=(j:Int):=by
 intro n
 induction n with
 |zero=>exact⟨fun h=>(nomatch h),fun ⟨_,h,_⟩=>absurd h (nnz _)⟩
 |succ n ih=>
  have e:wdN b u (n+1)=wdN b u n++if inU b (u:Int) n=true then [(n:Int)] else []:=rfl
  have ei:inU b (u:Int) n=decide ((b.getD n default).unit=(u:Int)):=rfl;rw[e,List.mem_append,ih,ei];constructor
  ·rintro (⟨j,h1,h2,h3⟩|h)
   ·exact⟨j,om,h2,h3⟩
   ·split at h
    ·rename_i hd;exact⟨n,om,of_decide_eq_true hd,List.mem_singleton.1 h⟩
    ·cases h
  ·rintro⟨j,h1,h2,h3⟩
   by_cases ej:j=n
   ·subst ej;rw[ipo (dqt h2)];exact .inr (List.mem_singleton.2 h3)
   ·exact .inl ⟨j,om,h2,h3⟩
theorem qxa(b:List Wd)(u:Nat): ∀n,(wdN b u n).Nodup:=by
 intro n
 induction n with
 |zero=>exact List.nodup_nil
 |succ n ih=>
  have e:wdN b u (n+1)=wdN b u n++if inU b (u:Int) n=true then [(n:Int)] else []:=rfl
  rw[e];split
  ·refine List.nodup_append.2 ⟨ih,by simp,fun x hx y hy=> ?_⟩;obtain⟨j,h1,_,h3⟩:=(qdp n).1 hx
   have:=List.mem_singleton.1 hy
   omega
  ·rw[lan];exact ih
theorem qfl{l:List Un}{b:List Wd}{x:Int}: ∀n,x∈usG l b n↔ ∃u:Nat,u<n∧brK l b u<0∧ ∃j:Nat,j<b.length∧(b.getD j default).unit=(u:Int)∧x=(j:Int):=by
 intro n
 induction n with
 |zero=>exact⟨fun h=>(nomatch h),fun ⟨_,h,_⟩=>absurd h (nnz _)⟩
 |succ n ih=>
  have e:usG l b (n+1)=usG l b n++if brK l b n<0 then wdN b n b.length else []:=rfl
  rw[e,List.mem_append,ih];constructor
  ·rintro (⟨u,h1,h2,h3⟩|h)
   ·exact⟨u,om,h2,h3⟩
   ·split at h
    ·rename_i hd;exact⟨n,om,hd,(qdp _).1 h⟩
    ·cases h
  ·rintro⟨u,h1,h2,h3⟩
   by_cases eu:u=n
   ·subst eu;rw[ipo h2];exact .inr ((qdp _).2 h3)
   ·exact .inl ⟨u,om,h2,h3⟩
theorem qpS(l:List Un)(b:List Wd): ∀n,(usG l b n).Nodup:=by
 intro n
 induction n with
 |zero=>exact List.nodup_nil
 |succ n ih=>
  have e:usG l b (n+1)=usG l b n++if brK l b n<0 then wdN b n b.length else []:=rfl
  rw[e];split
  ·refine List.nodup_append.2 ⟨ih,qxa _ _ _,fun x hx y hy=> ?_⟩;obtain⟨u,h1,_,j,_,h2,h3⟩:=(qfl n).1 hx;obtain⟨i,_,h4,h5⟩:=(qdp _).1 hy;intro exy
   have:j=i:=by omega
   subst this;omega
  ·rw[lan];exact ih
theorem qpP{n:Nat}{L:List Int}(hn:L.Nodup)(h: ∀x∈L,0≤x∧x<n):qgi L=qat (fun k=>decide ((k:Int)∈L)) n:=by
 have hsrt:(qgi L).Pairwise (· ≤ ·):=by
  refine (List.pairwise_mergeSort (le:=fun x y:Int=>decide (x≤y)) (fun a b c h1 h2=> ?_) (fun a b=> ?_) L).imp fun h=>of_decide_eq_true h
  ·exact dqt (Int.le_trans (of_decide_eq_true h1) (of_decide_eq_true h2))
  ·rw[Bool.or_eq_true,decide_eq_true_iff,decide_eq_true_iff];omega
 have hnd:(qgi L).Nodup:=(List.mergeSort_perm L _).nodup_iff.2 hn;have hlt:(qgi L).Pairwise (· < ·):=(hsrt.and hnd).imp fun {a b} hab=>by
  have h1:=hab.1;have h2:a≠b:=hab.2;omega
 refine qyC hlt (qrH _ _) fun x=> ?_
 have hm:x∈qgi L↔x∈L:=List.mem_mergeSort;rw[hm,qfX];constructor
 ·intro hx;obtain⟨x0,x1⟩:=h x hx;exact⟨x.toNat,om,dqt (by rw[show ((x.toNat:Nat):Int)=x by omega];exact hx),om⟩
 ·rintro⟨k,_,hb,rfl⟩;exact of_decide_eq_true hb
theorem qnH{n:Nat}{L:List Int}(hn:L.Nodup)(h: ∀x∈L,0≤x∧x<n):L.length≤n:=by
 have e:qgi L=qat (fun k=>decide ((k:Int)∈L)) n:=qpP hn h
 have:=qfW (fun k=>decide ((k:Int)∈L)) n
 rw[←e,qaf]at this;exact this
theorem qlO{l:List Un}{b:List Wd}: ∀x∈usG l b l.length,0≤x∧x<b.length:=fun x hx=>by
 obtain⟨u,_,_,j,h1,_,h3⟩:=(qfl _).1 hx;omega
theorem qsw(l:List Un)(b:List Wd):(usG l b l.length).length≤b.length:=qnH (qpS _ _ _) qlO
theorem qj5{x:Co}{l:List Un}{b:List Wd}(ho:qsY x l){u:Nat}(hul:u<l.length):hsK l b u= []↔brK l b u<0:=by
 have hmem:l.getD u default∈l:=by rw[gdqA,zY hul];exact List.getElem_mem hul
 have hrh:=qc9 x (l.getD u default).frm.toNat (l.getD u default).to.toNat;rw[←(ho.rg _ hmem).2.2.2]at hrh;have hlt:=qcS l b u;unfold hsK;split
 ·rename_i h0
  have:=hrh.nn (brK l b u).toNat om
  exact⟨fun e=>absurd e this,fun e=>by omega⟩
 ·exact⟨fun _=>by omega,fun _=>rfl⟩
theorem qpR(x:Co)(l:List Un)(b:List Wd):(if pvE x l b=0 then qgi (usG l b l.length) else [])=unK x l b:=by
 unfold unK;split
 ·rename_i g1;have hok:=qcA g1;have huo:=qb5 hok.un;rw[qpP (qpS _ _ _) qlO];refine qg5 fun i hi=> ?_
  rw[decide_eq_decide,qfl];obtain⟨p1,p2⟩:=qa2 g1 hi;constructor
  ·rintro⟨u,h1,h2,j,h3,h4,h5⟩
   have:i=j:=by omega
   subst this;unfold soK;rw[ine om,h4,itn];exact (qj5 huo h1).2 h2
  ·intro h0;unfold soK at h0;split at h0
   ·have hs:=(qdC hok.co).sg.1
    have:=qav x.sig.length
    rw[h0]at this;simp only[lnl]at this;omega
   ·rename_i hneg;have hul:(b.getD i default).unit.toNat<l.length:=by omega
    exact⟨(b.getD i default).unit.toNat,hul,(qj5 huo hul).1 h0,i,hi,om,rfl⟩
 ·rfl
end RC
end
section
open Go Go.Proofs AF
def qry:List Nat:= [83,87]
def qsZ:C:=
 ((C.ops [O1 5 (.box 0 26) 0,MC 10 (.str []),MC 11 (i6 0)]).seq (((C.ops [O1 19 (.load (some 4)) 5,MV 20 1,MV 21 3,ON 22 (.call 38 true) [.t 19,.t 20,.t 21],MV 12 22]).seq
 ((C.ops [MV 23 12,BC 24 .neq 23 (i6 0)]).seq (C.cond (.t 24) ((C.ops [MV 25 12,MC 10 (.str []),MV 11 25]).seq C.ret) C.skip))).seq (((C.ops [MV 26 4,BC 27 .lss 26 (i6 0),MV 28
 27,MG 29 28 false 4,MG 30 28 false 3,P1 31 28 false .len 30,P2 32 28 false (.bin .geq) 29 31,PT 33 28 32]).seq (C.cond (.t 33) ((C.ops [MC 10 (.str []),MC 11 (i6 2)]).seq
 C.ret) C.skip)).seq ((C.ops [MV 34 3,MV 35 4,O2 36 (.idxA 7) 34 35,O1 37 (.load (some 7)) 36,⟨some 13,none,.alloc 1 64 [.str [],i6 0,i6 0,i6 0,.bool false,.bool false,
 .str []],[]⟩,ST 7 13 37]).seq (((C.ops [O1 38 (.fldA 3) 13,LD 39 38,MV 40 2,O1 41 .len 40,BI 42 .geq 39 41]).seq (C.cond (.t 42) ((C.ops [MC 10 (.str []),MC 11 (i6 6)]).seq
 C.ret) C.skip)).seq ((C.ops [⟨some 43,none,.build [.nilp,.nl] [],[]⟩,O1 44 (.box 2 132) 43,MV 14 44]).seq ((C.wk.seq (C.ops [MV 45 14,O1 46 (.mkfn (Fn.func 83) 1) 45,MV 15
 46])).seq ((C.ops [MV 47 15,O1 48 (.fldA 0) 13,LD 49 48,⟨some 50,none,.bslc 3 1 2 9 [.str []] [(0,1),(1,1)],[.t 49,.c (.str [58,32])]⟩,O2 51 .callv 47 50]).seq ((C.ops
 [⟨some 52,none,.bslc 4 1 0 9 [.str []] [],[]⟩,MV 16 52]).seq (((C.ops [O1 53 (.load (some 4)) 5,MV 54 1,MV 55 3,MV 56 4,ON 57 (.call 84 true) [.t 53,.t 54,.t 55,.t 56],
 O1 58 .len 57,MC 59 (i6 0)]).seq (C.block 0 ((C.ops [BI 60 .lss 59 58]).seq ((C.cond (.t 60) C.skip (C.exit 0)).seq ((C.block 1 ((C.ops [O2 61 (.idxA 1) 57 59,LD 62 61,MV 18
 62]).seq (C.ops [MV 63 16,O1 64 (.fldA 1) 5,LD 65 64,MV 66 18,O2 67 (.idxA 1) 65 66,LD 68 67,⟨some 69,none,.bslc 5 1 1 9 [.str []] [(0,1)],[.t 68]⟩,O2 70 (.app 6 1 9 16)
 63 69,MV 16 70]))).seq (C.ops [BC 71 .add 59 (i6 1),MV 59 71])))).loop)).seq (((C.ops [MV 72 16,O1 73 .len 72,BC 74 .eql 73 (i6 0)]).seq (C.cond (.t 74) (C.ops [MV 75 16,⟨some
 76,none,.bslc 7 1 1 9 [.str []] [(0,1)],[.c (.str [110,111,32,115,111,117,114,99,101])]⟩,O2 77 (.app 8 1 9 16) 75 76,MV 16 77]) C.skip)).seq ((C.ops [MV 78 15,MV 79
 16,OC 80 (.call 85 true) 79 (.str [32]),⟨some 81,none,.bslc 9 1 2 9 [.str []] [(0,1),(1,1)],[.t 80,.c (.str [59,32])]⟩,O2 82 .callv 78 81]).seq ((C.block 2 ((C.ops [O1
 90 (.fldA 2) 13,LD 91 90,BC 92 .lss 91 (i6 0),MV 89 92]).seq (C.cond (.t 89) (C.ops [MV 93 15,⟨some 94,none,.bslc 10 1 1 9 [.str []] [(0,1)],[.c (.str [99,111,109,109,
 111,110])]⟩,O2 95 .callv 93 94]) ((C.ops [O1 97 (.fldA 3) 13,LD 98 97,BC 99 .lss 98 (i6 0),MV 96 99]).seq (C.cond (.t 96) (C.ops [MV 100 15,⟨some 101,none,.bslc 11 1 1 9
 [.str []] [(0,1)],[.c (.str [108,101,97,100,105,110,103,32,115,111,117,114,99,101])]⟩,O2 102 .callv 100 101]) ((C.ops [MV 104 2,O1 105 (.fldA 3) 13,LD 106 105,O2
 107 (.idxA 4) 104 106,O1 108 (.fldA 0) 107,LD 109 108,BC 110 .eql 109 (i6 1),MV 103 110]).seq (C.cond (.t 103) (C.ops [MV 111 15,O1 112 (.fldA 3) 13,LD 113 112,O1 114 (.call
 86 true) 113,MV 115 2,O1 116 (.fldA 3) 13,LD 117 116,O2 118 (.idxA 4) 115 117,O1 119 (.fldA 1) 118,LD 120 119,⟨some 121,none,.bslc 12 1 4 9 [.str []] [(0,1),(1,1),(2,
 1),(3,1)],[.c (.str [100,101,99,105,115,105,111,110,32]),.t 114,.c (.str [44,32,99,104,111,105,99,101,32,111,102,32]),.t 120]⟩,O2 122 .callv 111 121])
 (C.ops [MV 83 15,O1 84 (.fldA 3) 13,LD 85 84,O1 86 (.call 86 true) 85,⟨some 87,none,.bslc 13 1 3 9 [.str []] [(0,1),(1,1),(2,1)],[.c (.str [100,101,99,105,115,105,
 111,110,32]),.t 86,.c (.str [44,32,99,111,110,106,101,99,116,117,114,101])]⟩,O2 88 .callv 83 87])))))))).seq ((C.ops [MV 123 14,O1 124 .nilchk 123,O1 125 (.fldA
 0) 124,O1 126 (.call 87 false) 125,MV 10 126,MC 11 (i6 0)]).seq
 C.ret))))))))))))))
theorem qjR:qH Tryz.prog 21 127 15 [RV.tmp 10,RV.tmp 11] qsZ:=fi Tryz.f21 [5,13,44,50,52,69,70,76,77,81,94,101,121,87,43] qry [10]
end
section
open Go Go.Proofs AF HY LN
namespace RC
structure Dc where
 kind:Int
 sig:Str
 tok:Int
 txt:Str
instance:Inhabited Dc:=⟨⟨0,[],0,[]⟩⟩
def dcC(d:Dc):List AV:= [.int .i64 d.kind,.str d.sig,.int .i64 d.tok,.str d.txt]
def qfH(l:List Dc):AV:= .sl l.length fun i=>dcC (l.getD i default)
theorem qjJ(l:List Dc):(qfH l).flag=true:=rfl
theorem qhF(l:List Dc):(qfH l).strip=qfH l:=rfl
theorem qob{fz:Nat→Bool}{h:List AObj}{n:Nat}(l:List Dc):rei fz h (n+1) (qfH l)=qfH l:=rfl
theorem qnn{fz:Nat→Bool}{h:List AObj}{n:Nat}(l:List Dc):frz fz h (n+1) (qfH l)=qfH l:=rfl
attribute [go_sem] qjJ qhF qob qnn
def exE(x:Co)(l:List Un)(d:List Dc)(b:List Wd)(i:Int):Int:=if pvE x l b≠0 then pvE x l b else if i<0∨(b.length:Int)≤i then 2 else if (d.length:Int)≤(b.getD i.toNat default).dec then 6 else 0
def joN(x:Co)(S:List Int):List Str:=S.map fun s=>x.sig.getD s.toNat []
def nmN(x:Co)(S:List Int):List Str:=if S= [] then [[110,111,32,115,111,117,114,99,101]] else joN x S
def tlL(d:List Dc)(w:Wd):List Str:=
 if w.unit<0 then [[99,111,109,109,111,110]] else if w.dec<0 then [[108,101,97,100,105,110,103,32,115,111,117,114,99,101]] else
  if (d.getD w.dec.toNat default).kind=1 then [[100,101,99,105,115,105,111,110,32],Lib.itoa w.dec,[44,32,99,104,111,105,99,101,32,111,102,32],(d.getD w.dec.toNat default).sig]
  else [[100,101,99,105,115,105,111,110,32],Lib.itoa w.dec,[44,32,99,111,110,106,101,99,116,117,114,101]]
def qyc(x:Co)(d:List Dc)(w:Wd)(S:List Int):Str:=(([]++ [w.text,[58,32]].flatten)++ [Lib.join (nmN x S) [32],[59,32]].flatten)++(tlL d w).flatten
def exR(x:Co)(l:List Un)(d:List Dc)(b:List Wd)(i:Int):Str:=if exE x l d b i=0 then qyc x d (b.getD i.toNat default) (soK x l b i.toNat) else []
theorem qsp(sep:Str)(B:Nat): ∀(L:List Str),(∀s∈L,s.length≤B)→(Lib.joinTail sep L).length≤L.length*(sep.length+B):=by
 intro L
 induction L with
 |nil=>intro _;simp[Lib.joinTail]
 |cons a L ih=>
  intro h;have e:Lib.joinTail sep (a::L)=(sep++a)++Lib.joinTail sep L:=by simp[Lib.joinTail]
  rw[e,lap,lap,lco,Nat.succ_mul];have h1:=ih (fun s hs=>h s (List.mem_cons_of_mem _ hs));have h2:=h a (List.mem_cons_self ..);omega
theorem qrE(sep:Str)(B:Nat)(L:List Str)(h: ∀s∈L,s.length≤B):(Lib.join L sep).length≤L.length*(sep.length+B):=by
 cases L with
 |nil=>simp[Lib.join_nil]
 |cons a L=>
  rw[Lib.join_cons,lap,lco,Nat.succ_mul];have h1:=qsp sep B L (fun s hs=>h s (List.mem_cons_of_mem _ hs));have h2:=h a (List.mem_cons_self ..);omega
theorem qlk{x:Co}{l:List Un}{b:List Wd}(g:pvE x l b=0){i:Nat}(hi:i<b.length):(soK x l b i).length≤x.sig.length∧ ∀s∈soK x l b i,0≤s∧s<x.sig.length:=by
 have hok:=qcA g;have huo:=qb5 hok.un;obtain⟨p1,p2⟩:=qa2 g hi;unfold soK;split
 ·refine⟨Nat.le_of_eq (qav _),fun s hs=> ?_⟩;unfold qew at hs;obtain⟨k,hk,rfl⟩:=List.mem_map.1 hs
  have:=List.mem_range.1 hk
  omega
 ·have hul:(b.getD i default).unit.toNat<l.length:=by omega
  refine⟨qdO huo hul,fun s hs=> ?_⟩;have hmem:l.getD (b.getD i default).unit.toNat default∈l:=by rw[gdqA,zY hul];exact List.getElem_mem hul
  have hri:qev (l.getD (b.getD i default).unit.toNat default).rds x.sig.length:=by rw[(huo.rg _ hmem).2.2.2];exact qda _ _ _
  have hlt:=qcS l b (b.getD i default).unit.toNat;unfold hsK at hs;split at hs
  ·exact (hri.src _ (qjY om)).2 s hs
  ·cases hs
theorem qcy{n:Int}(h0:0≤n)(h1:n≤1000000000):(Lib.itoa n).length≤1000:=by
 have:=Lib.itoa_length_le n om om
 omega
structure XZ where
 i:Nat
 v:Nat
 O:AObj
theorem qo7(x:Co)(l:List Un)(d:List Dc)(b:List Wd)(i:Int)(h:List AObj)(hz:qcM x)(hu:qca l)(hb:b.length≤1000000)(ht: ∀i,(b.getD i default).text.length≤1000000000)(hn:x.sig.length≤1000)
  (hsl: ∀s,(x.sig.getD s []).length≤1000) (hdl:d.length≤1000000) (hds: ∀j,(d.getD j default).sig.length≤1000000) (hp:kh SG h):
  ACalls Tryz.prog 21 [.agg (coC x),qx l,qfH d,qV b,.int .i64 i] h (.tup [.str (exR x l d b i),.int .i64 (exE x l d b i)]) h:=by
 have c38:=fun l'=>pvP x l b (h++l') hz hu om ht (hp.app l')
 have z1: ∀g,valL g .len [qV b]= .int .i64 b.length:=fun _=>rfl
 have z2: ∀g,okL g .len [qV b]=True:=fun _=>eqt trivial
 have z3: ∀g,valL g .len [qfH d]= .int .i64 d.length:=fun _=>rfl
 have z4: ∀g,okL g .len [qfH d]=True:=fun _=>eqt trivial
 obtain⟨E,hE⟩: ∃E,E=exE x l d b i:=⟨_,rfl⟩
 have hR:exR x l d b i=if E=0 then qyc x d (b.getD i.toNat default) (soK x l b i.toNat) else []:=by rw[hE];rfl
 rw[hR,←hE];unfold exE at hE;unfold coC at c38
 by_cases g1:pvE x l b=0
 case neg=>
  rw[ipo g1]at hE;rw[hE,ine g1];have k1:(pvE x l b=0)=False:=eqf g1;refine acO qjR ?_;simp (disch:=omega) only[qsZ,coC,go_sem]
  repeat' first
   |(refine cA (c38 _) flk ?_;simp (disch:=omega) only[k1,go_sem])
   |(apply qb;exact rvk;simp only[go_sem];exact qi)
 rw[ine (fun hc=>hc g1)]at hE;simp only[g1]at c38
 by_cases g2:i<0
 ·have k2:(i<0)=True:=eqt g2;rw[ipo (.inl g2)]at hE;rw[hE,ine (by decide)];refine acO qjR ?_;simp (disch:=omega) only[qsZ,coC,go_sem]
  repeat' first
   |(refine cA (c38 _) flk ?_;simp (disch:=omega) only[z1,z2,k2,go_sem])
   |(apply qb;exact rvk;simp only[go_sem];exact qi)
 have k2:(i<0)=False:=eqf g2
 by_cases g3:(b.length:Int)≤i
 ·have k3:((b.length:Int)≤i)=True:=eqt g3;rw[ipo (.inr g3)]at hE;rw[hE,ine (by decide)];refine acO qjR ?_;simp (disch:=omega) only[qsZ,coC,go_sem]
  repeat' first
   |(refine cA (c38 _) flk ?_;simp (disch:=omega) only[z1,z2,k2,k3,go_sem])
   |(apply qb;exact rvk;simp only[go_sem];exact qi)
 have k3:((b.length:Int)≤i)=False:=eqf g3;rw[ine (fun hc=>hc.elim g2 g3)]at hE;obtain⟨j,rfl⟩: ∃j:Nat,i=(j:Int):=⟨i.toNat,om⟩
 rw[itn]at hE ⊢;have hjl:j<b.length:=by omega
 have k0:(0≤(j:Int))=True:=eqt om;have k5:((j:Int)<b.length)=True:=eqt om;have zb:qV b= .sl b.length fun i=>wdC (b.getD i default):=rfl
 have hpu:=qa2 g1 hjl;obtain⟨hSl,hSr⟩:=qlk g1 hjl;have htx:=(qcA g1).tx j hjl;have c84:=fun h=>qpN x l b j h hu hb hjl om hpu.2
 obtain⟨S,hS⟩: ∃S,S=soK x l b j:=⟨_,rfl⟩
 rw[←hS]at hSl hSr;rw[←hS];simp only[←hS]at c84;unfold coC at c84;obtain⟨w,hw⟩: ∃w,w=b.getD j default:=⟨_,rfl⟩
 have ew:=hw.symm;rw[ew]at hE hpu htx;rw[ew]
 by_cases g4:(d.length:Int)≤w.dec
 ·have k4:((d.length:Int)≤w.dec)=True:=eqt g4;rw[ipo g4]at hE;rw[hE,ine (by decide)];refine acO qjR ?_;simp (disch:=omega) only[qsZ,coC,zb,wdC,go_sem]
  repeat' first
   |(refine cA (c38 _) flk ?_;simp (disch:=omega) only[z3,z4,k2,k3,k0,k5,ew,k4,go_sem])
   |(apply qb;exact rvk;simp only[go_sem];exact qi)
 have k4:((d.length:Int)≤w.dec)=False:=eqf g4;rw[ine g4]at hE;rw[hE,ipo rfl];clear hE hR;refine acO qjR ?_;simp (disch:=omega) only[qsZ,coC,zb,wdC,go_sem]
 repeat' first
  |(refine cA (c38 _) flk ?_;simp (disch:=omega) only[z3,z4,k2,k3,k0,k5,ew,k4,go_sem])
 refine⟨_,_,Wk.ownNil (j:=h.length+2) (i:=1) (k:=h.length+14) (v:=1) (ty:=132) (cs:= [.nilp,.nl]) (ve:=0) (sz:=1) ?m1 rfl ?m2,?_⟩
 case m1=>simp only[go_sem]
 case m2=>simp only[go_sem]
 simp (disch:=omega) only[List.set_cons_zero,List.set_cons_succ,go_sem];have hb1:w.text.length≤64:=htx.2;obtain⟨s1,hs1⟩: ∃s,s= []++ [w.text,[58,32]].flatten:=⟨_,rfl⟩
 have hl1:s1.length≤66:=by rw[hs1];simp;omega
 unfold qyc;rw[←hs1];have hNl:(nmN x S).length≤1001∧ ∀s∈nmN x S,s.length≤1000:=by
  unfold nmN joN;split
  ·exact⟨by simp,fun s hs=>by rw[List.mem_singleton.1 hs];simp⟩
  ·refine⟨by rw[List.length_map];omega,fun s hs=> ?_⟩;obtain⟨y,_,rfl⟩:=List.mem_map.1 hs;exact hsl _
 have hNM0:nmN x S=if S= [] then [[110,111,32,115,111,117,114,99,101]] else joN x S:=rfl
 obtain⟨NM,hNM⟩: ∃N,N=nmN x S:=⟨_,rfl⟩
 rw[←hNM]at hNl hNM0 ⊢;have hjn:=qrE [32] 1000 NM hNl.2;obtain⟨J,hJ⟩: ∃J,J=Lib.join NM [32]:=⟨_,rfl⟩
 have hJl:(Lib.join NM [32]).length≤1002001:=by
  have e:NM.length*(([32]:Str).length+1000)≤1001*1001:=Nat.mul_le_mul hNl.1 (nlr _);omega
 have hNl1:=hNl.1;have hJ2:J.length≤1002001:=by rw[hJ];exact hJl
 obtain⟨s2,hs2⟩: ∃s,s=s1++ [J,[59,32]].flatten:=⟨_,rfl⟩
 have hl2:s2.length≤1002100:=by rw[hs2];simp;omega
 rw[←hJ,←hs2];refine qR (kW (h.length+2) 1 (h.length+14) 0 (h.length+3) 1 .nilp [] [w.text,[58,32]] _ om om om (by simp only[go_sem];try rfl) (by simp only[go_sem];try rfl) (.inl rfl) (by simp only[go_sem];try rfl) (by simp) (by simp) (by simp;omega)) ?_;rw[←hs1];simp (disch:=omega) only[wrO,go_sem];have y1: ∀g,valL g .len [qr S]= .int .i64 S.length:=fun _=>rfl
 have y2: ∀g,okL g .len [qr S]=True:=fun _=>eqt trivial
 repeat' first
  |(refine cA (c84 _) flk ?_;simp (disch:=omega) only[y1,y2,go_sem])
 obtain⟨O3,hO3⟩: ∃O:AObj,O=AObj.mem 1 9 (AV.str w.text::AV.str [58,32]::List.drop 1 (List.drop 1 (qQ [AV.str []] 2))):=⟨_,rfl⟩
 rw[←hO3];have eM:qQ [AV.str []] 0=zM (joN x (S.take 0)):=rfl;rw[eM];have hjl0: ∀k,k≤S.length→(joN x (S.take k)).length=k:=fun k hk=>by unfold joN;rw[List.length_map,List.length_take];omega
 have zS:qr S= .sl S.length fun i=> [.int .i64 (S.getD i 0)]:=rfl
 have zG:strs x.sig= .sl x.sig.length fun i=> [.str (x.sig.getD i [])]:=rfl
 refine qn (T:=fun s:XZ=>qP 127 [(2,qfH d),(5,.op h.length 1 0),(13,.op (h.length+1) 1 0),(14,.op (h.length+2) 1 0),(15,.fn (.func 83) [.op (h.length+2) 1 0] []),(16,.osl (h.length+4) s.v 1 0 s.i),(57,qr S),(58,.int .i64 S.length),(59,.int .i64 s.i)])
  (H:=fun s=>h++ [.mem 1 26 [.str x.sec,strs x.sig,ql x.tok,qp x.col],.mem 1 64 [AV.str w.text,AV.int .i64 w.col,AV.int .i64 w.unit,AV.int .i64 w.dec,AV.bool w.joined,AV.bool w.verse,AV.str w.name],.mem 1 132 [.op (h.length+2) 1 0,.osl (h.length+14) 2 1 0 s1.length],O3,.mem s.v 9 (zM (joN x (S.take s.i))),s.O,.emp 0,.emp 0,.emp 0,.emp 0,.emp 0,.emp 0,.emp 0,.emp 0,qep 2 s1])
  (inv:=fun s=>s.i≤S.length∧qO [s.O] 0=true) (m:=fun s=>S.length-s.i) ⟨0,1,.emp 0⟩ ⟨nzl _,rfl⟩ (Wk.temps ?_) ?_
 ·(simp only[go_sem,qf,qc,qa,qe];try (repeat' first|(with_reducible apply aiA)|(apply qg;omega)|(apply qd;rfl)|exact qi))
 rintro⟨k,v,O⟩ ⟨q1,q2⟩ K hK;simp only at q1 q2 hK;have q2': ∀m,qO (O::m) 0=true:=fun _=>q2
 have hjk:=hjl0 k q1
 by_cases hk:k<S.length
 ·have r1:((k:Int)<S.length)=True:=eqt om;have r0:(0≤(k:Int))=True:=eqt om;have hmm:S.getD k 0∈S:=by rw[gdqA,zY hk];exact List.getElem_mem hk
  obtain⟨y1,y2⟩:=hSr _ hmm;have hst:joN x (S.take (k+1))=joN x (S.take k)++ [x.sig.getD (S.getD k 0).toNat []]:=by
   unfold joN;rw[List.take_add_one,List.map_append,zY hk,gdqA (l:=S),zY hk];rfl
  obtain⟨y,hy⟩: ∃y:Nat,S.getD k 0=(y:Int):=⟨(S.getD k 0).toNat,om⟩
  rw[hy,itn]at hst;rw[hy]at y1 y2;have t1:((y:Int)<x.sig.length)=True:=eqt y2;have t0:(0≤(y:Int))=True:=eqt y1;obtain⟨u,hu'⟩: ∃u,u=x.sig.getD y []:=⟨_,rfl⟩
  have eu:=hu'.symm;rw[eu]at hst;obtain⟨M,hM⟩: ∃M,M=joN x (S.take k):=⟨_,rfl⟩
  rw[←hM]at hst hjk;rw[←hM];have eC:=zD M;rw[hjk]at eC;have eT:List.take k (zM M)=zM M:=ltl om;simp (disch:=omega) only[zS,zG,r0,r1,hy,t0,t1,eu,q2',eC,eT,Nat.mul_one,go_sem]
  repeat' first
   |with_reducible apply aiA
  all_goals try exact clz
  have eA:zM M++ [AV.str u]=zM (joN x (S.take (k+1))):=by rw[hst,qbH];rfl
  have eD:(AV.str u::List.drop 1 (qQ [AV.str []] 1))= [AV.str u]:=rfl
  try rw[eD]
  rw[eA];refine hK _ _ ⟨k+1,v+1,.mem (qq (some O)+1) 9 [.str u]⟩ ⟨hk,rfl⟩ (by simp only;omega) (Wk.temps ?_)
  (simp only[zS,go_sem,qf,qc,qa,qe];try (repeat' first|(with_reducible apply aiA)|(apply qg;omega)|(apply qd;rfl)|exact qi))
 obtain rfl:k=S.length:=by omega
 clear hK;have r1:((S.length:Int)<S.length)=False:=eqf om;rw[List.take_length]at hjk ⊢
 by_cases h0:S= []
 ·have r2:((S.length:Int)=0)=True:=eqt (by rw[h0];rfl);rw[ipo h0]at hNM0;have hjz:joN x S= []:=by rw[h0];rfl
  have hSz:S.length=0:=by rw[h0];rfl
  rw[hjz,hSz];have eS0:zM ([]:List Str)= []:=rfl;rw[hSz]at r1 r2;have hNL:NM.length=1:=by rw[hNM0];rfl
  have eNM: [AV.str [110,111,32,115,111,117,114,99,101]]=zM NM:=by rw[hNM0];rfl
  simp (disch:=omega) only[r1,r2,eS0,Nat.mul_one,go_sem]
  repeat' first
   |with_reducible apply aiA
  all_goals try exact clz
  try rw[eNM]
  refine cA (joB (L:=NM) (sep:= [32]) ?v1 om om) ?v2 ?v3
  case v2=>exact flk
  case v1=>
   simp only[List.map,go_sem]
   first
    |exact⟨slM_str (fun _=>rfl) hNL.symm,qi,trivial⟩
    |(rw[ipo (by rw[zD];exact Nat.le_of_eq hNL.symm)];exact⟨qaQ _ (fun _=>rfl) hNL.symm,qi,trivial⟩)
  case v3=>
  rw[←hJ];simp (disch:=omega) only[List.set_cons_zero,go_sem];unfold tlL
  by_cases u1:w.unit<0
  ·have e1:(w.unit<0)=True:=eqt u1;rw[ipo u1];refine qR (kW (h.length+2) 1 (h.length+14) 2 (h.length+9) 1 (.op (h.length+2) 1 0) s1 [J,[59,32]] _ om om om (by simp only[go_sem];try rfl) (by simp only[go_sem];try rfl) (.inr rfl) (by simp only[go_sem];try rfl) (by simp) (by simp) (by simp;omega)) ?_;rw[←hs2];simp (disch:=omega) only[wrO,e1,go_sem];obtain⟨s3,hs3⟩: ∃s,s=s2++([[99,111,109,109,111,110]]:List Str).flatten:=⟨_,rfl⟩
   rw[←hs3];refine qR (kW (h.length+2) 1 (h.length+14) 4 (h.length+10) 1 (.op (h.length+2) 1 0) s2 [[99,111,109,109,111,110]] _ om om om (by simp only[go_sem];try rfl) (by simp only[go_sem];try rfl) (.inr rfl) (by simp only[go_sem];try rfl) (by simp) (by simp) (by simp;omega)) ?_;rw[←hs3];simp (disch:=omega) only[wrO,go_sem];refine qZ (qpQ (h.length+2) 1 (h.length+14) 5 (.op (h.length+2) 1 0) s3 _ om (by simp only[go_sem];try rfl) (by simp only[go_sem];try rfl)) (by exact flk) ?_;simp (disch:=omega) only[go_sem]
   repeat' first
    |(apply qb;exact rvk;simp only[go_sem];exact qi)
  have e1:(w.unit<0)=False:=eqf u1;rw[ine u1]
  by_cases u2:w.dec<0
  ·have e2:(w.dec<0)=True:=eqt u2;rw[ipo u2];refine qR (kW (h.length+2) 1 (h.length+14) 2 (h.length+9) 1 (.op (h.length+2) 1 0) s1 [J,[59,32]] _ om om om (by simp only[go_sem];try rfl) (by simp only[go_sem];try rfl) (.inr rfl) (by simp only[go_sem];try rfl) (by simp) (by simp) (by simp;omega)) ?_;rw[←hs2];simp (disch:=omega) only[wrO,e1,e2,go_sem];obtain⟨s3,hs3⟩: ∃s,s=s2++([[108,101,97,100,105,110,103,32,115,111,117,114,99,101]]:List Str).flatten:=⟨_,rfl⟩
   rw[←hs3];refine qR (kW (h.length+2) 1 (h.length+14) 4 (h.length+11) 1 (.op (h.length+2) 1 0) s2 [[108,101,97,100,105,110,103,32,115,111,117,114,99,101]] _ om om om (by simp only[go_sem];try rfl) (by simp only[go_sem];try rfl) (.inr rfl) (by simp only[go_sem];try rfl) (by simp) (by simp) (by simp;omega)) ?_;rw[←hs3];simp (disch:=omega) only[wrO,go_sem];refine qZ (qpQ (h.length+2) 1 (h.length+14) 5 (.op (h.length+2) 1 0) s3 _ om (by simp only[go_sem];try rfl) (by simp only[go_sem];try rfl)) (by exact flk) ?_;simp (disch:=omega) only[go_sem]
   repeat' first
    |(apply qb;exact rvk;simp only[go_sem];exact qi)
  have e2:(w.dec<0)=False:=eqf u2;rw[ine u2];have hdc:w.dec<d.length:=by omega
  have c86:=fun l'=>t48 w.dec (h++l') (SG.pow (hp.app l')) om om
  have hil:=qcy (n:=w.dec) om om;obtain⟨I,hI⟩: ∃I,I=Lib.itoa w.dec:=⟨_,rfl⟩
  rw[←hI]at hil;simp only[←hI]at c86 ⊢;have hsg:=hds w.dec.toNat;obtain⟨D,hD⟩: ∃D,D=d.getD w.dec.toNat default:=⟨_,rfl⟩
  have eD:=hD.symm;rw[eD]at hsg ⊢;have zd:qfH d= .sl d.length fun i=>dcC (d.getD i default):=rfl
  have e3:(0≤w.dec)=True:=eqt om;have e4:(w.dec<d.length)=True:=eqt hdc
  by_cases u3:D.kind=1
  ·have e5:(D.kind=1)=True:=eqt u3;rw[ipo u3];refine qR (kW (h.length+2) 1 (h.length+14) 2 (h.length+9) 1 (.op (h.length+2) 1 0) s1 [J,[59,32]] _ om om om (by simp only[go_sem];try rfl) (by simp only[go_sem];try rfl) (.inr rfl) (by simp only[go_sem];try rfl) (by simp) (by simp) (by simp;omega)) ?_;rw[←hs2];simp (disch:=omega) only[wrO,e1,e2,e3,e4,e5,zd,dcC,eD,go_sem]
   repeat' first
    |(refine cA (c86 _) flk ?_;simp (disch:=omega) only[e3,e4,eD,List.set_cons_zero,go_sem])
   obtain⟨s3,hs3⟩: ∃s,s=s2++([[100,101,99,105,115,105,111,110,32],I,[44,32,99,104,111,105,99,101,32,111,102,32],D.sig]:List Str).flatten:=⟨_,rfl⟩
   rw[←hs3];refine qR (kW (h.length+2) 1 (h.length+14) 4 (h.length+12) 1 (.op (h.length+2) 1 0) s2 [[100,101,99,105,115,105,111,110,32],I,[44,32,99,104,111,105,99,101,32,111,102,32],D.sig] _ om om om (by simp only[go_sem];try rfl) (by simp only[go_sem];try rfl) (.inr rfl) (by simp only[go_sem];try rfl) (by simp) (by simp) (by simp;omega)) ?_;rw[←hs3];simp (disch:=omega) only[wrO,go_sem];refine qZ (qpQ (h.length+2) 1 (h.length+14) 8 (.op (h.length+2) 1 0) s3 _ om (by simp only[go_sem];try rfl) (by simp only[go_sem];try rfl)) (by exact flk) ?_;simp (disch:=omega) only[go_sem]
   repeat' first
    |(apply qb;exact rvk;simp only[go_sem];exact qi)
  have e5:(D.kind=1)=False:=eqf u3;rw[ine u3];refine qR (kW (h.length+2) 1 (h.length+14) 2 (h.length+9) 1 (.op (h.length+2) 1 0) s1 [J,[59,32]] _ om om om (by simp only[go_sem];try rfl) (by simp only[go_sem];try rfl) (.inr rfl) (by simp only[go_sem];try rfl) (by simp) (by simp) (by simp;omega)) ?_;rw[←hs2];simp (disch:=omega) only[wrO,e1,e2,e3,e4,e5,zd,dcC,eD,go_sem]
  repeat' first
   |(refine cA (c86 _) flk ?_;simp (disch:=omega) only[List.set_cons_zero,go_sem])
  obtain⟨s3,hs3⟩: ∃s,s=s2++([[100,101,99,105,115,105,111,110,32],I,[44,32,99,111,110,106,101,99,116,117,114,101]]:List Str).flatten:=⟨_,rfl⟩
  rw[←hs3];refine qR (kW (h.length+2) 1 (h.length+14) 4 (h.length+13) 1 (.op (h.length+2) 1 0) s2 [[100,101,99,105,115,105,111,110,32],I,[44,32,99,111,110,106,101,99,116,117,114,101]] _ om om om (by simp only[go_sem];try rfl) (by simp only[go_sem];try rfl) (.inr rfl) (by simp only[go_sem];try rfl) (by simp) (by simp) (by simp;omega)) ?_;rw[←hs3];simp (disch:=omega) only[wrO,go_sem];refine qZ (qpQ (h.length+2) 1 (h.length+14) 7 (.op (h.length+2) 1 0) s3 _ om (by simp only[go_sem];try rfl) (by simp only[go_sem];try rfl)) (by exact flk) ?_;simp (disch:=omega) only[go_sem]
  repeat' first
   |(apply qb;exact rvk;simp only[go_sem];exact qi)
 ·have r2:((S.length:Int)=0)=False:=eqf (fun hc=>h0 (List.length_eq_zero_iff.1 om));rw[ine h0]at hNM0;have hNL:NM.length=S.length:=by rw[hNM0];exact hjk
  rw[←hNM0];simp (disch:=omega) only[r1,r2,go_sem];refine cA (joB (L:=NM) (sep:= [32]) ?v1 om om) ?v2 ?v3
  case v2=>exact flk
  case v1=>
   simp only[List.map,go_sem]
   first
    |exact⟨slM_str (fun _=>rfl) hNL.symm,qi,trivial⟩
    |(rw[ipo (by rw[zD];exact Nat.le_of_eq hNL.symm)];exact⟨qaQ _ (fun _=>rfl) hNL.symm,qi,trivial⟩)
  case v3=>
  rw[←hJ];simp (disch:=omega) only[List.set_cons_zero,go_sem];unfold tlL
  by_cases u1:w.unit<0
  ·have e1:(w.unit<0)=True:=eqt u1;rw[ipo u1];refine qR (kW (h.length+2) 1 (h.length+14) 2 (h.length+9) 1 (.op (h.length+2) 1 0) s1 [J,[59,32]] _ om om om (by simp only[go_sem];try rfl) (by simp only[go_sem];try rfl) (.inr rfl) (by simp only[go_sem];try rfl) (by simp) (by simp) (by simp;omega)) ?_;rw[←hs2];simp (disch:=omega) only[wrO,e1,go_sem];obtain⟨s3,hs3⟩: ∃s,s=s2++([[99,111,109,109,111,110]]:List Str).flatten:=⟨_,rfl⟩
   rw[←hs3];refine qR (kW (h.length+2) 1 (h.length+14) 4 (h.length+10) 1 (.op (h.length+2) 1 0) s2 [[99,111,109,109,111,110]] _ om om om (by simp only[go_sem];try rfl) (by simp only[go_sem];try rfl) (.inr rfl) (by simp only[go_sem];try rfl) (by simp) (by simp) (by simp;omega)) ?_;rw[←hs3];simp (disch:=omega) only[wrO,go_sem];refine qZ (qpQ (h.length+2) 1 (h.length+14) 5 (.op (h.length+2) 1 0) s3 _ om (by simp only[go_sem];try rfl) (by simp only[go_sem];try rfl)) (by exact flk) ?_;simp (disch:=omega) only[go_sem]
   repeat' first
    |(apply qb;exact rvk;simp only[go_sem];exact qi)
  have e1:(w.unit<0)=False:=eqf u1;rw[ine u1]
  by_cases u2:w.dec<0
  ·have e2:(w.dec<0)=True:=eqt u2;rw[ipo u2];refine qR (kW (h.length+2) 1 (h.length+14) 2 (h.length+9) 1 (.op (h.length+2) 1 0) s1 [J,[59,32]] _ om om om (by simp only[go_sem];try rfl) (by simp only[go_sem];try rfl) (.inr rfl) (by simp only[go_sem];try rfl) (by simp) (by simp) (by simp;omega)) ?_;rw[←hs2];simp (disch:=omega) only[wrO,e1,e2,go_sem];obtain⟨s3,hs3⟩: ∃s,s=s2++([[108,101,97,100,105,110,103,32,115,111,117,114,99,101]]:List Str).flatten:=⟨_,rfl⟩
   rw[←hs3];refine qR (kW (h.length+2) 1 (h.length+14) 4 (h.length+11) 1 (.op (h.length+2) 1 0) s2 [[108,101,97,100,105,110,103,32,115,111,117,114,99,101]] _ om om om (by simp only[go_sem];try rfl) (by simp only[go_sem];try rfl) (.inr rfl) (by simp only[go_sem];try rfl) (by simp) (by simp) (by simp;omega)) ?_;rw[←hs3];simp (disch:=omega) only[wrO,go_sem];refine qZ (qpQ (h.length+2) 1 (h.length+14) 5 (.op (h.length+2) 1 0) s3 _ om (by simp only[go_sem];try rfl) (by simp only[go_sem];try rfl)) (by exact flk) ?_;simp (disch:=omega) only[go_sem]
   repeat' first
    |(apply qb;exact rvk;simp only[go_sem];exact qi)
  have e2:(w.dec<0)=False:=eqf u2;rw[ine u2];have hdc:w.dec<d.length:=by omega
  have c86:=fun l'=>t48 w.dec (h++l') (SG.pow (hp.app l')) om om
  have hil:=qcy (n:=w.dec) om om;obtain⟨I,hI⟩: ∃I,I=Lib.itoa w.dec:=⟨_,rfl⟩
  rw[←hI]at hil;simp only[←hI]at c86 ⊢;have hsg:=hds w.dec.toNat;obtain⟨D,hD⟩: ∃D,D=d.getD w.dec.toNat default:=⟨_,rfl⟩
  have eD:=hD.symm;rw[eD]at hsg ⊢;have zd:qfH d= .sl d.length fun i=>dcC (d.getD i default):=rfl
  have e3:(0≤w.dec)=True:=eqt om;have e4:(w.dec<d.length)=True:=eqt hdc
  by_cases u3:D.kind=1
  ·have e5:(D.kind=1)=True:=eqt u3;rw[ipo u3];refine qR (kW (h.length+2) 1 (h.length+14) 2 (h.length+9) 1 (.op (h.length+2) 1 0) s1 [J,[59,32]] _ om om om (by simp only[go_sem];try rfl) (by simp only[go_sem];try rfl) (.inr rfl) (by simp only[go_sem];try rfl) (by simp) (by simp) (by simp;omega)) ?_;rw[←hs2];simp (disch:=omega) only[wrO,e1,e2,e3,e4,e5,zd,dcC,eD,go_sem]
   repeat' first
    |(refine cA (c86 _) flk ?_;simp (disch:=omega) only[e3,e4,eD,List.set_cons_zero,go_sem])
   obtain⟨s3,hs3⟩: ∃s,s=s2++([[100,101,99,105,115,105,111,110,32],I,[44,32,99,104,111,105,99,101,32,111,102,32],D.sig]:List Str).flatten:=⟨_,rfl⟩
   rw[←hs3];refine qR (kW (h.length+2) 1 (h.length+14) 4 (h.length+12) 1 (.op (h.length+2) 1 0) s2 [[100,101,99,105,115,105,111,110,32],I,[44,32,99,104,111,105,99,101,32,111,102,32],D.sig] _ om om om (by simp only[go_sem];try rfl) (by simp only[go_sem];try rfl) (.inr rfl) (by simp only[go_sem];try rfl) (by simp) (by simp) (by simp;omega)) ?_;rw[←hs3];simp (disch:=omega) only[wrO,go_sem];refine qZ (qpQ (h.length+2) 1 (h.length+14) 8 (.op (h.length+2) 1 0) s3 _ om (by simp only[go_sem];try rfl) (by simp only[go_sem];try rfl)) (by exact flk) ?_;simp (disch:=omega) only[go_sem]
   repeat' first
    |(apply qb;exact rvk;simp only[go_sem];exact qi)
  have e5:(D.kind=1)=False:=eqf u3;rw[ine u3];refine qR (kW (h.length+2) 1 (h.length+14) 2 (h.length+9) 1 (.op (h.length+2) 1 0) s1 [J,[59,32]] _ om om om (by simp only[go_sem];try rfl) (by simp only[go_sem];try rfl) (.inr rfl) (by simp only[go_sem];try rfl) (by simp) (by simp) (by simp;omega)) ?_;rw[←hs2];simp (disch:=omega) only[wrO,e1,e2,e3,e4,e5,zd,dcC,eD,go_sem]
  repeat' first
   |(refine cA (c86 _) flk ?_;simp (disch:=omega) only[List.set_cons_zero,go_sem])
  obtain⟨s3,hs3⟩: ∃s,s=s2++([[100,101,99,105,115,105,111,110,32],I,[44,32,99,111,110,106,101,99,116,117,114,101]]:List Str).flatten:=⟨_,rfl⟩
  rw[←hs3];refine qR (kW (h.length+2) 1 (h.length+14) 4 (h.length+13) 1 (.op (h.length+2) 1 0) s2 [[100,101,99,105,115,105,111,110,32],I,[44,32,99,111,110,106,101,99,116,117,114,101]] _ om om om (by simp only[go_sem];try rfl) (by simp only[go_sem];try rfl) (.inr rfl) (by simp only[go_sem];try rfl) (by simp) (by simp) (by simp;omega)) ?_;rw[←hs3];simp (disch:=omega) only[wrO,go_sem];refine qZ (qpQ (h.length+2) 1 (h.length+14) 7 (.op (h.length+2) 1 0) s3 _ om (by simp only[go_sem];try rfl) (by simp only[go_sem];try rfl)) (by exact flk) ?_;simp (disch:=omega) only[go_sem]
  repeat' first
   |(apply qb;exact rvk;simp only[go_sem];exact qi)
def qol:Str:= [101,114,97,116]
def yC:Co:=⟨[73],[[65],[66]],[[tkS qok,tkS qyO],[tkS qok,tkS qol]],[[0,0],[1,1]]⟩
def yL:List Un:= [⟨1,2,[⟨[qyO],[0]⟩,⟨[qol],[1]⟩]⟩]
def yD:List Dc:= [⟨1,[66],1,[]⟩]
def yB:List Wd:= [⟨qok,0,-1,-1,false,false,[]⟩,⟨qol,1,0,0,false,false,[]⟩]
theorem qzD:soE yC yL yB 1=0∧soL yC yL yB 1= [1]:=by decide+kernel
theorem qzE:exE yC yL yD yB 0=0∧exR yC yL yD yB 0= [100,101,117,115,58,32,65,32,66,59,32,99,111,109,109,111,110]:=by decide+kernel
theorem qzF:exE yC yL yD yB 1=0∧exR yC yL yD yB 1= [101,114,97,116,58,32,66,59,32,100,101,99,105,115,105,111,110,32,48,44,32,99,104,111,105,99,101,32,111,102,32,66]:=by decide+kernel
theorem qyS(s:Str)(h:List AObj):ACalls Tryz.prog 151 [.str s] h (.agg (tkC (tkS s))) h:=by
 unfold tkS tkC;refine acO quS ?_;simp (disch:=omega) only[qty,go_sem]
 repeat' first
  |(apply qb;exact rvk;simp only[go_sem];exact qi)
theorem qzX(h:List AObj):ACalls Tryz.prog 80 [] h (.tup [.agg (coC yC),qx yL,qfH yD,qV yB]) h:=by
 have c1:=fun s h=>qyS s h
 unfold tkS tkC at c1;refine acO qyn ?_;simp (disch:=omega) only[qzo,go_sem]
 repeat' first
  |(refine qu (c1 qok _) ?_;simp (disch:=omega) only[go_sem])
  |(refine qu (c1 qyO _) ?_;simp (disch:=omega) only[go_sem])
  |(refine qu (c1 qol _) ?_;simp (disch:=omega) only[go_sem])
  |(apply qb;exact rvk;simp only[go_sem])
 refine jn ⟨VLe.agg ⟨qi,vl2 ⟨ie rfl,trivial⟩ ⟨ie rfl,trivial⟩,vl2 ⟨?a1,trivial⟩ ⟨?a2,trivial⟩,vl2 ⟨?a3,trivial⟩ ⟨?a4,trivial⟩,trivial⟩,vl1 ⟨ie rfl,ie rfl,?b1,trivial⟩,vl1 ⟨ie rfl,ie rfl,ie rfl,ie rfl,trivial⟩,
  vl2 ⟨ie rfl,ie rfl,ie rfl,ie rfl,ie rfl,ie rfl,ie rfl,trivial⟩ ⟨ie rfl,ie rfl,ie rfl,ie rfl,ie rfl,ie rfl,ie rfl,trivial⟩,trivial⟩
 case a1=>simp only[go_sem];exact il2 rfl rfl
 case a2=>simp only[go_sem];exact il2 rfl rfl
 case a3=>simp only[go_sem];exact il2 rfl rfl
 case a4=>simp only[go_sem];exact il2 rfl rfl
 case b1=>
  simp only[go_sem];refine im2 ⟨?u1,?u2,trivial⟩ ⟨?u3,?u4,trivial⟩
  all_goals
   simp only[go_sem];exact il1 rfl
def gWb(b:List Wd)(i:Nat):Bool:=decide (66<(b.getD i default).text.length)||decide (20<(b.getD i default).name.length)
def qs2(b:List Wd):Bool:=zE (gWb b) b.length||decide (12<b.length)
theorem qyu(b:List Wd)(h:List AObj)(hn:b.length≤9223372036854775807):ACalls Tryz.prog 79 [qV b] h (.bool (qs2 b)) h:=by
 obtain⟨R,hR⟩: ∃R,R=qs2 b:=⟨_,rfl⟩
 rw[←hR];unfold qs2 at hR;have zb:qV b= .sl b.length fun i=>wdC (b.getD i default):=rfl
 refine acO qym ?_;simp (disch:=omega) only[qzn,go_sem];refine qn (T:=fun i:Nat=>qP 29 [(0,qV b),(3,.int .i64 i)]) (H:=fun _=>h) (inv:=fun i=>i≤b.length∧ ∀j,j<i→gWb b j=false) (m:=fun i=>b.length-i) 0 ⟨nzl _,fun j hj=>absurd hj (nnz j)⟩ (Wk.temps ?_) ?_
 ·(simp only[go_sem,qf,qc,qa,qe];try (repeat' first|(with_reducible apply aiA)|(apply qg;omega)|(apply qd;rfl)|exact qi))
 rintro i ⟨i1,i2⟩ K hK
 by_cases hi:i<b.length
 ·have k1:((i:Int)<b.length)=True:=eqt om;have k0:(0≤(i:Int))=True:=eqt om;have hit:gWb b i=true→R=true:=fun hc=>by rw[hR,qv.2 ⟨i,hi,hc⟩];rfl
  have i3:=fun hc=>jv (p:=gWb b) i2 hc
  have hG:gWb b i=(decide (66<(b.getD i default).text.length)||decide (20<(b.getD i default).name.length)):=rfl;obtain⟨w,hw⟩: ∃w,w=b.getD i default:=⟨_,rfl⟩
  have ew:=hw.symm;rw[ew]at hG
  by_cases g1:66<w.text.length
  ·have q1:((66:Int)<w.text.length)=True:=eqt om;rw[hit (by rw[hG,dqt g1];rfl)];simp (disch:=omega) only[zb,wdC,k0,k1,ew,q1,go_sem]
   repeat' first
    |(apply qh;exact rvk;simp only[go_sem];exact qi)
  have q1:((66:Int)<w.text.length)=False:=eqf om
  by_cases g2:20<w.name.length
  ·have q2:((20:Int)<w.name.length)=True:=eqt om;rw[hit (by rw[hG,dqt g2,Bool.or_true])];simp (disch:=omega) only[zb,wdC,k0,k1,ew,q1,q2,go_sem]
   repeat' first
    |(apply qh;exact rvk;simp only[go_sem];exact qi)
    |with_reducible apply aiA
   all_goals try exact clz
  have q2:((20:Int)<w.name.length)=False:=eqf om;simp (disch:=omega) only[zb,wdC,k0,k1,ew,q1,q2,go_sem]
  repeat' first
   |with_reducible apply aiA
  all_goals try exact clz
  refine hK _ _ (i+1) ⟨hi,i3 (by rw[hG,dqf g1,dqf g2];rfl)⟩ om (Wk.temps ?_)
  (simp only[zb,wdC,go_sem,qf,qc,qa,qe];try (repeat' first|(with_reducible apply aiA)|(apply qg;omega)|(apply qd;rfl)|exact qi))
 obtain rfl:i=b.length:=by omega
 have k1:((b.length:Int)<b.length)=False:=eqf om;rw[qk.2 (fun j hj=>i2 j hj),Bool.false_or]at hR
 by_cases g:12<b.length
 ·have q:((12:Int)<b.length)=True:=eqt om;rw[dqt g]at hR;rw[hR];simp (disch:=omega) only[zb,k1,q,go_sem]
  repeat' first
   |(apply qh;exact rvk;simp only[go_sem];exact qi)
 ·have q:((12:Int)<b.length)=False:=eqf om;rw[dqf g]at hR;rw[hR];simp (disch:=omega) only[zb,k1,q,go_sem]
  repeat' first
   |(apply qh;exact rvk;simp only[go_sem];exact qi)
def qs1(x:Co)(l:List Un)(b:List Wd):Bool:=qrm x||(qrn l||qs2 b)
theorem qz4(x:Co)(l:List Un)(b:List Wd)(h:List AObj)(h1:CoB x)(h2:UnB l)(h3:b.length≤9223372036854775807):ACalls Tryz.prog 14 [.agg (coC x),qx l,qV b] h (.bool (qs1 x l b)) h:=by
 have c1:=fun h=>qz0 x h h1
 have c2:=fun h=>qz1 l h h2
 have c3:=fun h=>qyu b h h3
 unfold qs1;cases e1:qrm x with
 |true=>
  rw[e1]at c1;unfold coC at c1;refine acO qne ?_;simp (disch:=omega) only[qtw,coC,go_sem]
  repeat' first
   |(refine qj ( .bool false) ?_;simp (disch:=omega) only[go_sem])
   |(refine cA (c1 _) flk ?_;simp (disch:=omega) only[go_sem])
   |(apply qb;exact rvk;simp only[go_sem];exact qi)
 |false=>
  rw[e1]at c1;unfold coC at c1;cases e2:qrn l with
  |true=>
   rw[e2]at c2;refine acO qne ?_;simp (disch:=omega) only[qtw,coC,go_sem]
   repeat' first
    |(refine qj ( .bool false) ?_;simp (disch:=omega) only[go_sem])
    |((first|refine cA (c1 _) ?_ ?_|refine cG (fun e=>c2 _) ?_ ?_);exact flk;simp (disch:=omega) only[go_sem])
    |(apply qb;exact rvk;simp only[go_sem];exact qi)
  |false=>
   rw[e2]at c2;cases e3:qs2 b with
   |true=>
    rw[e3]at c3;refine acO qne ?_;simp (disch:=omega) only[qtw,coC,go_sem]
    repeat' first
     |((first|refine cA (c1 _) ?_ ?_|refine cG (fun e=>c2 _) ?_ ?_|refine cG (fun e=>c3 _) ?_ ?_);exact flk;simp (disch:=omega) only[go_sem])
     |(apply qb;exact rvk;simp only[go_sem];exact qi)
   |false=>
    rw[e3]at c3;refine acO qne ?_;simp (disch:=omega) only[qtw,coC,go_sem]
    repeat' first
     |((first|refine cA (c1 _) ?_ ?_|refine cG (fun e=>c2 _) ?_ ?_|refine cG (fun e=>c3 _) ?_ ?_);exact flk;simp (disch:=omega) only[go_sem])
     |(apply qb;exact rvk;simp only[go_sem];exact qi)
theorem qpv{x:Co}{l:List Un}{b:List Wd}(h:qs1 x l b=false):qcM x∧qca l∧b.length≤12∧(∀i,(b.getD i default).text.length≤66)∧x.sig.length≤36:=by
 unfold qs1 qs2 at h;simp only[Bool.or_eq_false_iff,decide_eq_false_iff_not]at h;obtain⟨h1,h2,h3,h4⟩:=h;obtain⟨o1,_,o3⟩:=qvM h1;obtain⟨u1,_⟩:=qvN h2;refine⟨o1,u1,om,?_,o3⟩;refine zJ b (fun w=>w.text.length≤66) (by decide) fun i hi=> ?_
 have:=qk.1 h3 i hi
 unfold gWb at this;rw[Bool.or_eq_false_iff]at this
 have:=of_decide_eq_false this.1
 omega
theorem qAQ:qs1 yC yL yB=false:=by decide+kernel
theorem qxM(h:List AObj)(hp:kh SG h):ACalls Tryz.prog 16 [] h (.bool true) h:=by
 have c1:=fun h=>qzX h
 obtain⟨o1,o2,o3,o4,o5⟩:=qpv qAQ;have o4': ∀i,(yB.getD i default).text.length≤1000000000:=fun i=>by have:=o4 i;omega
 have ysg: ∀s,(yC.sig.getD s []).length≤1000:=zJ yC.sig (fun s=>s.length≤1000) (by decide) (by decide);have yds: ∀j,(yD.getD j default).sig.length≤1000000:=zJ yD (fun d=>d.sig.length≤1000000) (by decide) (by decide);have c2:=fun l'=>qlx yC yL yB 1 (h++l') o1 o2 om o4' om (hp.app l')
 have c3:=fun l'=>qo7 yC yL yD yB 0 (h++l') o1 o2 om o4' om ysg (by decide) yds (hp.app l')
 have c4:=fun l'=>qo7 yC yL yD yB 1 (h++l') o1 o2 om o4' om ysg (by decide) yds (hp.app l')
 rw[qzD.1,qzD.2]at c2;rw[qzE.1,qzE.2]at c3;rw[qzF.1,qzF.2]at c4;have c5:=fun h=>qxD [1] [1] h (by decide) (by decide)
 rw[dqt rfl]at c5;unfold coC at c1 c2 c3 c4;refine acO qye ?_;simp (disch:=omega) only[qzi,go_sem]
 repeat' first
  |((first|refine cA (c1 _) ?_ ?_|refine cA (c2 _) ?_ ?_|refine cA (c3 _) ?_ ?_|refine cA (c4 _) ?_ ?_);exact flk;simp (disch:=omega) only[go_sem])
  |with_reducible apply aiA
 all_goals try exact clz
 refine cG (fun _=>qzU (L:= [1]) ?v1 (by decide)) ?v2 ?v3
 case v2=>exact flk
 case v1=>
  simp only[List.map,go_sem];exact⟨qi,VLe.sl_eq rfl (fun i hi=>by
   obtain rfl:i=0:=by omega
   rfl),trivial⟩
 case v3=>
 simp (disch:=omega) only[go_sem]
 repeat' first
  |(apply qb;exact rvk;simp only[go_sem];exact qi)
theorem qv3(x:Co)(l:List Un)(b:List Wd)(i s:Int)(h:List AObj)(hp:kh SG h)(h1:CoB x)(h2:UnB l)(h3:b.length≤9223372036854775807):
  ACalls Tryz.prog 7 [.agg (coC x),qx l,qV b,.int .i64 i,.int .i64 s] h (.bool true) h:=by
 have c14:=fun h=>qz4 x l b h h1 h2 h3
 have c16:=fun l'=>qxM (h++l') (hp.app l')
 obtain⟨g,hg⟩: ∃g,g=qs1 x l b:=⟨_,rfl⟩
 rw[←hg]at c14;unfold coC at c14;cases g with
 |true=>
  refine acO qzr ?_;simp (disch:=omega) only[c7s,coC,go_sem]
  repeat' first
   |((first|refine cA (c14 _) ?_ ?_|refine cA (c16 _) ?_ ?_);exact flk;simp (disch:=omega) only[go_sem])
   |(apply qb;exact rvk;simp only[go_sem];exact qi)
 |false=>
 obtain⟨o1,o2,o3,o4,o5⟩:=qpv hg.symm;have o4': ∀i,(b.getD i default).text.length≤1000000000:=fun i=>by have:=o4 i;omega
 have hus:=qsw l b;have c1:=fun l'=>qlx x l b i (h++l') o1 o2 om o4' om (hp.app l')
 have c2:=fun l'=>qsn x l b i (h++l') o1 o2 om o4' om (hp.app l')
 have c3:=fun l'=>qwL x l b (h++l') o1 o2 om o4' om (hp.app l')
 have c4:=fun l'=>qwM x l b (h++l') o1 o2 om o4' om (hp.app l')
 have c5:=fun l'=>qtg x l b s (h++l') o1 o2 om o4' om (hp.app l')
 have c6:=fun l'=>qth x l b s (h++l') o1 o2 om o4' om (hp.app l')
 have c7:=fun l'=>pvP x l b (h++l') o1 o2 om o4' (hp.app l')
 have c8:=fun l'=>qn6 x l b (h++l') o1 o2 om o4' (hp.app l')
 simp only[qpR]at c3;have hl1:(soL x l b i).length≤1000000000:=by
  unfold soL;split
  ·rename_i he;have hx:pvE x l b=0∧ ¬(i<0∨(b.length:Int)≤i):=by
    unfold soE at he;split at he
    ·rename_i h9;exact absurd he h9
    ·rename_i h9;split at he
     ·cases he
     ·rename_i h8;exact⟨Classical.not_not.1 h9,h8⟩
   have:=(qlk hx.1 (i:=i.toNat) om).1
   omega
  ·exact nzl _
 have hl2:(unK x l b).length≤1000000000:=by
  rw[←qpR];split
  ·rw[qaf];omega
  ·exact nzl _
 have c9:=fun h=>qxD (soL x l b i) (soL x l b i) h hl1 hl1
 have c10:=fun h=>qxD (unK x l b) (unK x l b) h hl2 hl2
 rw[dqt rfl]at c9 c10;obtain⟨A,hA⟩: ∃A,A=soL x l b i:=⟨_,rfl⟩
 obtain⟨E,hE⟩: ∃E,E=soE x l b i:=⟨_,rfl⟩
 obtain⟨B,hB⟩: ∃B,B=unK x l b:=⟨_,rfl⟩
 obtain⟨V,hV⟩: ∃V,V=pvE x l b:=⟨_,rfl⟩
 obtain⟨n1,hn1⟩: ∃n,n=agN x l b s:=⟨_,rfl⟩
 obtain⟨n2,hn2⟩: ∃n,n=agM x l b s:=⟨_,rfl⟩
 obtain⟨n3,hn3⟩: ∃n,n=agE x l b s:=⟨_,rfl⟩
 simp only[←hA,←hE,←hB,←hV,←hn1,←hn2,←hn3]at c1 c2 c3 c4 c5 c6 c7 c8 c9 c10;have q1:(E=E)=True:=eqt rfl;have q2:(V=V)=True:=eqt rfl;have q3:(n1=n1)=True:=eqt rfl;have q4:(n2=n2)=True:=eqt rfl;have q5:(n3=n3)=True:=eqt rfl;unfold coC at c1 c2 c3 c4 c5 c6 c7 c8;refine acO qzr ?_;simp (disch:=omega) only[c7s,coC,go_sem]
 repeat' first
  |((first|refine cA (c14 _) ?_ ?_|refine cA (c1 _) ?_ ?_|refine cA (c2 _) ?_ ?_|refine cA (c3 _) ?_ ?_|refine cA (c4 _) ?_ ?_|refine cA (c5 _) ?_ ?_|refine cA (c6 _) ?_ ?_|refine cA (c7 _) ?_ ?_|refine cA (c8 _) ?_ ?_|refine cG (fun e=>c9 _) ?_ ?_|refine cG (fun e=>c10 _) ?_ ?_|refine cG (fun e=>c16 _) ?_ ?_);exact flk;simp (disch:=omega) only[go_sem])
  |(apply qb;exact rvk;simp only[go_sem];exact qi)
  |with_reducible apply aiA
 all_goals try exact clz
end RC
end
section
open Go Go.Proofs AF HY Go.ChangeShapes Go.RowKit
namespace LN
theorem qyq : Tryz.prog.globalNamed "internal/strconv.uint64pow10" = some 1 := by kernel_rfl
theorem qys : Tryz.prog.globalNamed "strconv.ErrSyntax" = some 6 := by kernel_rfl
theorem qyr : Tryz.prog.globalNamed "strconv.ErrRange" = some 7 := by kernel_rfl
theorem qn2{w w':World}(h:qoV w)(e:w'.heap[1]? =w.heap[1]?):qoV w':=by
 unfold qoV Lib.TabIs at*;rw[qdk qyq e];exact h
theorem qfb : "*" ++ "errors.errorString" = "*errors.errorString" := by decide
theorem qpJ (u : TypeId) (h : Tryz.prog.typeName? 3 u = some "*errors.errorString") : u = 323 :=
 typeName_ptr_named (nm := "errors.errorString") (by rw [qfb]; kernel_rfl) (by kernel_rfl) (by decide) u (by rw [qfb]; exact h)
def qdc:List Nat:= [1,6,7]
def qxG(w:World):Prop:=qoV w∧qta w
theorem qsj:kh RC.SG [.pin qdc qxG]:=⟨0,_,_,rfl,fun _ h=>h⟩
theorem qwH{W:World}(h:laidMet Tryz.prog YtgoandblgcjleaaGreatDoor.Rows.provenanceSourcesRow.laid W):qoV W∧qta W:=by
 have h2:=laidMet.tail (laidMet.tail h);have h3:=laidMet.tail h2;have h4:=laidMet.tail h3;obtain⟨a,s,e1,_⟩:=laid_sentinel (g:=7) (ti:=192) (tp:=323) (te:=325) (ts:=9) h3 qyr (by kernel_rfl) Tryz.underlying192 qpJ Tryz.underlying323 Tryz.underlying325 rfl rfl Tryz.underlying9 (by kernel_rfl) (by kernel_rfl);obtain⟨b,t,e2,_⟩:=laid_sentinel (g:=6) (ti:=192) (tp:=323) (te:=325) (ts:=9) h4 qys (by kernel_rfl) Tryz.underlying192 qpJ Tryz.underlying323 Tryz.underlying325 rfl rfl Tryz.underlying9 (by kernel_rfl) (by kernel_rfl);exact⟨Lib.tabIs_of_head (t:=288) (e:=164) (n:=20) qyq (by kernel_rfl) Tryz.underlying288 Tryz.underlying164 (by kernel_rfl) (by kernel_rfl) h2,⟨_,_,e2⟩,_,_,e1⟩
theorem qow{W:World}(h:laidMet Tryz.prog YtgoandblgcjleaaGreatDoor.Rows.provenanceSourcesRow.laid W): ∀b,b∈qdc→ ∃arr T fz,W.heap[b]? =some (.cells arr T fz):=by
 intro b hb;obtain⟨h1,⟨_,_,h2⟩,_,_,h3⟩:=qwH h;have e:b=1∨b=6∨b=7:=by simpa[qdc] using hb
 rcases e with rfl|rfl|rfl
 ·exact qb8 qyq h1
 ·exact qb8 qys h2
 ·exact qb8 qyr h3
theorem qsm{W:World}(h:laidMet Tryz.prog YtgoandblgcjleaaGreatDoor.Rows.provenanceSourcesRow.laid W): ∀w':World,(∀b,b∈qdc→w'.heap[b]? =W.heap[b]?)→qxG w':=by
 intro w' hs;obtain⟨h1,⟨t1,p1,h2⟩,t2,p2,h3⟩:=qwH h;refine⟨qn2 h1 (hs 1 (by simp[qdc])),⟨t1,p1,?_⟩,t2,p2,?_⟩
 ·rw[qdk qys (hs 6 (by simp[qdc]))];exact h2
 ·rw[qdk qyr (hs 7 (by simp[qdc]))];exact h3
end LN
end
