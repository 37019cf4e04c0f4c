import Derived.Test.YtgoandblgcjleaaGreatDoorK13
import Derived.Test.YtgoandblgcjleaaGreatDoorK12
import Derived.Test.YtgoandblgcjleaaGreatDoorK3
import Derived.Test.YtgoandblgcjleaaGreatDoorK4
import Derived.Test.YtgoandblgcjleaaGreatDoorK8
import Derived.Test.YtgoandblgcjleaaGreatDoorProg
import Derived.Test.YtgoandblgcjleaaGreatDoorK9
import Derived.Test.YtgoandblgcjleaaGreatDoorK11
set_option linter.all false
set_option linter.unusedSimpArgs false
set_option linter.unusedVariables false
set_option linter.unusedSectionVars false
set_option maxHeartbeats 128000000
set_option maxRecDepth 100000
section
open Go Go.Proofs AF HY LN
namespace RC
def poK(x:Co)(b:List Wd)(i s:Int):Tk:=(x.tok.getD s.toNat []).getD ((x.col.getD ((b.getD i.toNat default).col).toNat []).getD s.toNat 0).toNat default
def poE(x:Co)(b:List Wd)(i s:Int):Int:=
 if coE x≠0 then 1 else if i<0∨(b.length:Int)≤i∨s<0∨(x.sig.length:Int)≤s then 2 else if (b.getD i.toNat default).col<0∨(x.col.length:Int)≤(b.getD i.toNat default).col then 19 else
  if (x.col.getD ((b.getD i.toNat default).col).toNat []).getD s.toNat 0<0∨(poK x b i s).text≠(b.getD i.toNat default).text then 6 else 0
def poR(x:Co)(b:List Wd)(i s:Int):List AV:=if poE x b i s=0 then [.str (poK x b i s).page,.int .i64 (poK x b i s).line] else [.str [],.int .i64 0]
def deE(b:List Wd)(i:Int):Int:=if i<0∨(b.length:Int)≤i then 2 else 0
def deR(b:List Wd)(i:Int):Int:=if deE b i=0 then (b.getD i.toNat default).dec else 0
theorem qzN(x:Co)(b:List Wd)(i s:Int)(h:List AObj)(hz:qen x)(hb:b.length≤1000000000)(hp:ky SG h):
  ACalls Tryz.prog 17 [.agg (coC x),qZ b,.int .i64 i,.int .i64 s] h (.tup [.agg (poR x b i s),.int .i64 (poE x b i s)]) h:=by
 have c1:=fun l'=>coP x (h++l') hz (hp.app l')
 have zb:qZ b= .sl b.length fun i=>wdC (b.getD i default):=rfl
 have zs1: ∀g,valL g .len [strs x.sig]= .int .i64 x.sig.length:=fun _=>rfl
 have zs2: ∀g,okL g .len [strs x.sig]=True:=fun _=>eqt trivial
 obtain⟨E,hE⟩: ∃E,E=poE x b i s:=⟨_,rfl⟩
 have hR:poR x b i s=if E=0 then [.str (poK x b i s).page,.int .i64 (poK x b i s).line] else [.str [],.int .i64 0]:=by rw[hE];rfl
 rw[hR,←hE];unfold poE at hE;obtain⟨e,he⟩: ∃e,e=coE x:=⟨_,rfl⟩
 have eh:=he.symm;rw[eh]at c1 hE;unfold coC at c1
 by_cases g0:e=0
 case neg=>
  have k0:(e=0)=False:=eqf g0;rw[ipo g0]at hE;rw[hE,ine (by decide)];refine acO qb7 ?_;simp (disch:=omega) only[qiJ,coC,go_sem]
  repeat' first
   |(refine cA (c1 _) flk ?_;simp (disch:=omega) only[k0,go_sem])
   |(apply qa;exact rvk;simp only[go_sem];exact qi)
 have k0:(e=0)=True:=eqt g0;rw[ine (fun hc=>hc g0)]at hE;have ho:=qco (eh.trans g0)
 by_cases g1:i<0
 ·have k1:(i<0)=True:=eqt g1;rw[ipo (.inl g1)]at hE;rw[hE,ine (by decide)];refine acO qb7 ?_;simp (disch:=omega) only[qiJ,coC,zb,go_sem]
  repeat' first
   |(refine cA (c1 _) flk ?_;simp (disch:=omega) only[zs1,zs2,k0,k1,go_sem])
   |(apply qa;exact rvk;simp only[go_sem];exact qi)
 have k1:(i<0)=False:=eqf g1
 by_cases g2:(b.length:Int)≤i
 ·have k2:((b.length:Int)≤i)=True:=eqt g2;rw[ipo (.inr (.inl g2))]at hE;rw[hE,ine (by decide)];refine acO qb7 ?_;simp (disch:=omega) only[qiJ,coC,zb,go_sem]
  repeat' first
   |(refine cA (c1 _) flk ?_;simp (disch:=omega) only[zs1,zs2,k0,k1,k2,go_sem])
   |(apply qa;exact rvk;simp only[go_sem];exact qi)
 have k2:((b.length:Int)≤i)=False:=eqf g2
 by_cases g3:s<0
 ·have k3:(s<0)=True:=eqt g3;rw[ipo (.inr (.inr (.inl g3)))]at hE;rw[hE,ine (by decide)];refine acO qb7 ?_;simp (disch:=omega) only[qiJ,coC,zb,go_sem]
  repeat' first
   |(refine cA (c1 _) flk ?_;simp (disch:=omega) only[zs1,zs2,k0,k1,k2,k3,go_sem])
   |(apply qa;exact rvk;simp only[go_sem];exact qi)
 have k3:(s<0)=False:=eqf g3
 by_cases g4:(x.sig.length:Int)≤s
 ·have k4:((x.sig.length:Int)≤s)=True:=eqt g4;rw[ipo (.inr (.inr (.inr g4)))]at hE;rw[hE,ine (by decide)];refine acO qb7 ?_;simp (disch:=omega) only[qiJ,coC,zb,go_sem]
  repeat' first
   |(refine cA (c1 _) flk ?_;simp (disch:=omega) only[zs1,zs2,k0,k1,k2,k3,k4,go_sem])
   |(apply qa;exact rvk;simp only[go_sem];exact qi)
 have k4:((x.sig.length:Int)≤s)=False:=eqf g4;rw[ine om]at hE;obtain⟨n,rfl⟩: ∃n:Nat,i=(n:Int):=⟨i.toNat,om⟩
 obtain⟨m,rfl⟩: ∃m:Nat,s=(m:Int):=⟨s.toNat,om⟩
 have k5:(0≤(n:Int))=True:=eqt om;have k6:((n:Int)<b.length)=True:=eqt om;have k7:(0≤(m:Int))=True:=eqt om;rw[itn,itn]at hE;unfold poK at hE ⊢;rw[itn,itn]at hE ⊢;obtain⟨w,hw⟩: ∃w,w=b.getD n default:=⟨_,rfl⟩
 have ew:=hw.symm;rw[ew]at hE ⊢
 by_cases g5:w.col<0
 ·have q1:(w.col<0)=True:=eqt g5;rw[ipo (.inl g5)]at hE;rw[hE,ine (by decide)];refine acO qb7 ?_;simp (disch:=omega) only[qiJ,coC,zb,wdC,go_sem]
  repeat' first
   |(refine cA (c1 _) flk ?_;simp (disch:=omega) only[zs1,zs2,k0,k1,k2,k3,k4,k5,k6,ew,q1,go_sem])
   |(apply qa;exact rvk;simp only[go_sem];exact qi)
 have q1:(w.col<0)=False:=eqf g5
 by_cases g6:(x.col.length:Int)≤w.col
 ·have q2:((x.col.length:Int)≤w.col)=True:=eqt g6;rw[ipo (.inr g6)]at hE;rw[hE,ine (by decide)];refine acO qb7 ?_;simp (disch:=omega) only[qiJ,coC,zb,wdC,qp,go_sem]
  repeat' first
   |(refine cA (c1 _) flk ?_;simp (disch:=omega) only[zs1,zs2,k0,k1,k2,k3,k4,k5,k6,ew,q1,q2,go_sem])
   |(apply qa;exact rvk;simp only[go_sem];exact qi)
   |with_reducible apply aiA
  all_goals try exact clz
 have q2:((x.col.length:Int)≤w.col)=False:=eqf g6;rw[ine om]at hE;obtain⟨c,hc⟩: ∃c:Nat,w.col=(c:Int):=⟨w.col.toNat,om⟩
 rw[hc,itn]at hE ⊢;have q1:((c:Int)<0)=False:=eqf om;have q2:((x.col.length:Int)≤c)=False:=eqf om;have q3:(0≤(c:Int))=True:=eqt om;have q4:((c:Int)<x.col.length)=True:=eqt om;have hcl:=ho.cl c om;have hce:=ho.ce c om m om;obtain⟨r,hr⟩: ∃r,r=x.col.getD c []:=⟨_,rfl⟩
 have er:=hr.symm;rw[er]at hE hcl hce ⊢;obtain⟨t,ht⟩: ∃t,t=r.getD m 0:=⟨_,rfl⟩
 have et:=ht.symm;rw[et]at hE hce ⊢;have q5:((m:Int)<r.length)=True:=eqt om;have q6:((m:Int)<x.tok.length)=True:=eqt (by have:=ho.tn;omega)
 by_cases g7:t<0
 ·have q7:(t<0)=True:=eqt g7;rw[ipo (.inl g7)]at hE;rw[hE,ine (by decide)];refine acO qb7 ?_;simp (disch:=omega) only[qiJ,coC,zb,wdC,qp,qq,go_sem]
  repeat' first
   |(refine cA (c1 _) flk ?_;simp (disch:=omega) only[zs1,zs2,k0,k1,k2,k3,k4,k5,k6,k7,ew,hc,q1,q2,q3,q4,q5,er,et,q7,go_sem])
   |(apply qa;exact rvk;simp only[go_sem];exact qi)
   |with_reducible apply aiA
  all_goals try exact clz
 have q7:(t<0)=False:=eqf g7;have q8:(0≤t)=True:=eqt om;obtain⟨l,hl⟩: ∃l,l=x.tok.getD m []:=⟨_,rfl⟩
 have el:=hl.symm;rw[el]at hE hce ⊢;have q9:(t<l.length)=True:=eqt (by rcases hce with e|e;omega;omega);obtain⟨a,ha⟩: ∃a,a=l.getD t.toNat default:=⟨_,rfl⟩
 have ea:=ha.symm;rw[ea]at hE ⊢
 by_cases g8:a.text=w.text
 case neg=>
  have p1:(a.text=w.text)=False:=eqf g8;rw[ipo (.inr g8)]at hE;rw[hE,ine (by decide)];refine acO qb7 ?_;simp (disch:=omega) only[qiJ,coC,zb,wdC,qp,qq,qm,zM,tkC,go_sem]
  repeat' first
   |(refine cA (c1 _) flk ?_;simp (disch:=omega) only[zs1,zs2,k0,k1,k2,k3,k4,k5,k6,k7,ew,hc,q1,q2,q3,q4,q5,q6,er,et,q7,q8,q9,el,ea,p1,go_sem])
   |(apply qa;exact rvk;simp only[go_sem];exact qi)
   |with_reducible apply aiA
  all_goals try exact clz
 have p1:(a.text=w.text)=True:=eqt g8;rw[ine (by rintro (h|h);exact g7 h;exact h g8)]at hE;rw[hE,ipo rfl];refine acO qb7 ?_;simp (disch:=omega) only[qiJ,coC,zb,wdC,qp,qq,qm,zM,tkC,go_sem]
 repeat' first
  |(refine cA (c1 _) flk ?_;simp (disch:=omega) only[zs1,zs2,k0,k1,k2,k3,k4,k5,k6,k7,ew,hc,q1,q2,q3,q4,q5,q6,er,et,q7,q8,q9,el,ea,p1,go_sem])
  |(apply qa;exact rvk;simp only[go_sem];exact qi)
  |with_reducible apply aiA
 all_goals try exact clz
theorem qzO(x:Co)(b:List Wd)(i s:Int)(h:List AObj)(hz:qen x)(hb:b.length≤1000000000)(hp:ky SG h):
  ACalls Tryz.prog 18 [.agg (coC x),qZ b,.int .i64 i,.int .i64 s] h (.tup [.agg (poR x b i s),.int .i64 (poE x b i s)]) h:=by
 have c1:=fun l'=>coR x (h++l') hz (hp.app l')
 have zb:qZ b= .sl b.length fun i=>wdC (b.getD i default):=rfl
 have zs1: ∀g,valL g .len [strs x.sig]= .int .i64 x.sig.length:=fun _=>rfl
 have zs2: ∀g,okL g .len [strs x.sig]=True:=fun _=>eqt trivial
 obtain⟨E,hE⟩: ∃E,E=poE x b i s:=⟨_,rfl⟩
 have hR:poR x b i s=if E=0 then [.str (poK x b i s).page,.int .i64 (poK x b i s).line] else [.str [],.int .i64 0]:=by rw[hE];rfl
 rw[hR,←hE];unfold poE at hE;obtain⟨e,he⟩: ∃e,e=coE x:=⟨_,rfl⟩
 have eh:=he.symm;rw[eh]at c1 hE;unfold coC at c1
 by_cases g0:e=0
 case neg=>
  have k0:(e=0)=False:=eqf g0;rw[ipo g0]at hE;rw[hE,ine (by decide)];refine acO qb8 ?_;simp (disch:=omega) only[qiL,coC,go_sem]
  repeat' first
   |(refine cA (c1 _) flk ?_;simp (disch:=omega) only[k0,go_sem])
   |(apply qa;exact rvk;simp only[go_sem];exact qi)
 have k0:(e=0)=True:=eqt g0;rw[ine (fun hc=>hc g0)]at hE;have ho:=qco (eh.trans g0)
 by_cases g1:i<0
 ·have k1:(i<0)=True:=eqt g1;rw[ipo (.inl g1)]at hE;rw[hE,ine (by decide)];refine acO qb8 ?_;simp (disch:=omega) only[qiL,coC,zb,go_sem]
  repeat' first
   |(refine cA (c1 _) flk ?_;simp (disch:=omega) only[zs1,zs2,k0,k1,go_sem])
   |(apply qa;exact rvk;simp only[go_sem];exact qi)
 have k1:(i<0)=False:=eqf g1
 by_cases g2:(b.length:Int)≤i
 ·have k2:((b.length:Int)≤i)=True:=eqt g2;rw[ipo (.inr (.inl g2))]at hE;rw[hE,ine (by decide)];refine acO qb8 ?_;simp (disch:=omega) only[qiL,coC,zb,go_sem]
  repeat' first
   |(refine cA (c1 _) flk ?_;simp (disch:=omega) only[zs1,zs2,k0,k1,k2,go_sem])
   |(apply qa;exact rvk;simp only[go_sem];exact qi)
 have k2:((b.length:Int)≤i)=False:=eqf g2
 by_cases g3:s<0
 ·have k3:(s<0)=True:=eqt g3;rw[ipo (.inr (.inr (.inl g3)))]at hE;rw[hE,ine (by decide)];refine acO qb8 ?_;simp (disch:=omega) only[qiL,coC,zb,go_sem]
  repeat' first
   |(refine cA (c1 _) flk ?_;simp (disch:=omega) only[zs1,zs2,k0,k1,k2,k3,go_sem])
   |(apply qa;exact rvk;simp only[go_sem];exact qi)
 have k3:(s<0)=False:=eqf g3
 by_cases g4:(x.sig.length:Int)≤s
 ·have k4:((x.sig.length:Int)≤s)=True:=eqt g4;rw[ipo (.inr (.inr (.inr g4)))]at hE;rw[hE,ine (by decide)];refine acO qb8 ?_;simp (disch:=omega) only[qiL,coC,zb,go_sem]
  repeat' first
   |(refine cA (c1 _) flk ?_;simp (disch:=omega) only[zs1,zs2,k0,k1,k2,k3,k4,go_sem])
   |(apply qa;exact rvk;simp only[go_sem];exact qi)
 have k4:((x.sig.length:Int)≤s)=False:=eqf g4;rw[ine om]at hE;obtain⟨n,rfl⟩: ∃n:Nat,i=(n:Int):=⟨i.toNat,om⟩
 obtain⟨m,rfl⟩: ∃m:Nat,s=(m:Int):=⟨s.toNat,om⟩
 have k5:(0≤(n:Int))=True:=eqt om;have k6:((n:Int)<b.length)=True:=eqt om;have k7:(0≤(m:Int))=True:=eqt om;rw[itn,itn]at hE;unfold poK at hE ⊢;rw[itn,itn]at hE ⊢;obtain⟨w,hw⟩: ∃w,w=b.getD n default:=⟨_,rfl⟩
 have ew:=hw.symm;rw[ew]at hE ⊢
 by_cases g5:w.col<0
 ·have q1:(w.col<0)=True:=eqt g5;rw[ipo (.inl g5)]at hE;rw[hE,ine (by decide)];refine acO qb8 ?_;simp (disch:=omega) only[qiL,coC,zb,wdC,go_sem]
  repeat' first
   |(refine cA (c1 _) flk ?_;simp (disch:=omega) only[zs1,zs2,k0,k1,k2,k3,k4,k5,k6,ew,q1,go_sem])
   |(apply qa;exact rvk;simp only[go_sem];exact qi)
 have q1:(w.col<0)=False:=eqf g5
 by_cases g6:(x.col.length:Int)≤w.col
 ·have q2:((x.col.length:Int)≤w.col)=True:=eqt g6;rw[ipo (.inr g6)]at hE;rw[hE,ine (by decide)];refine acO qb8 ?_;simp (disch:=omega) only[qiL,coC,zb,wdC,qp,go_sem]
  repeat' first
   |(refine cA (c1 _) flk ?_;simp (disch:=omega) only[zs1,zs2,k0,k1,k2,k3,k4,k5,k6,ew,q1,q2,go_sem])
   |(apply qa;exact rvk;simp only[go_sem];exact qi)
   |with_reducible apply aiA
  all_goals try exact clz
 have q2:((x.col.length:Int)≤w.col)=False:=eqf g6;rw[ine om]at hE;obtain⟨c,hc⟩: ∃c:Nat,w.col=(c:Int):=⟨w.col.toNat,om⟩
 rw[hc,itn]at hE ⊢;have q1:((c:Int)<0)=False:=eqf om;have q2:((x.col.length:Int)≤c)=False:=eqf om;have q3:(0≤(c:Int))=True:=eqt om;have q4:((c:Int)<x.col.length)=True:=eqt om;have hcl:=ho.cl c om;have hce:=ho.ce c om m om;obtain⟨r,hr⟩: ∃r,r=x.col.getD c []:=⟨_,rfl⟩
 have er:=hr.symm;rw[er]at hE hcl hce ⊢;obtain⟨t,ht⟩: ∃t,t=r.getD m 0:=⟨_,rfl⟩
 have et:=ht.symm;rw[et]at hE hce ⊢;have q5:((m:Int)<r.length)=True:=eqt om;have q6:((m:Int)<x.tok.length)=True:=eqt (by have:=ho.tn;omega)
 by_cases g7:t<0
 ·have q7:(t<0)=True:=eqt g7;rw[ipo (.inl g7)]at hE;rw[hE,ine (by decide)];refine acO qb8 ?_;simp (disch:=omega) only[qiL,coC,zb,wdC,qp,qq,go_sem]
  repeat' first
   |(refine cA (c1 _) flk ?_;simp (disch:=omega) only[zs1,zs2,k0,k1,k2,k3,k4,k5,k6,k7,ew,hc,q1,q2,q3,q4,q5,er,et,q7,go_sem])
   |(apply qa;exact rvk;simp only[go_sem];exact qi)
   |with_reducible apply aiA
  all_goals try exact clz
 have q7:(t<0)=False:=eqf g7;have q8:(0≤t)=True:=eqt om;obtain⟨l,hl⟩: ∃l,l=x.tok.getD m []:=⟨_,rfl⟩
 have el:=hl.symm;rw[el]at hE hce ⊢;have q9:(t<l.length)=True:=eqt (by rcases hce with e|e;omega;omega);obtain⟨a,ha⟩: ∃a,a=l.getD t.toNat default:=⟨_,rfl⟩
 have ea:=ha.symm;rw[ea]at hE ⊢
 by_cases g8:a.text=w.text
 case neg=>
  have p1:(a.text=w.text)=False:=eqf g8;rw[ipo (.inr g8)]at hE;rw[hE,ine (by decide)];refine acO qb8 ?_;simp (disch:=omega) only[qiL,coC,zb,wdC,qp,qq,qm,zM,tkC,go_sem]
  repeat' first
   |(refine cA (c1 _) flk ?_;simp (disch:=omega) only[zs1,zs2,k0,k1,k2,k3,k4,k5,k6,k7,ew,hc,q1,q2,q3,q4,q5,q6,er,et,q7,q8,q9,el,ea,p1,go_sem])
   |(apply qa;exact rvk;simp only[go_sem];exact qi)
   |with_reducible apply aiA
  all_goals try exact clz
 have p1:(a.text=w.text)=True:=eqt g8;rw[ine (by rintro (h|h);exact g7 h;exact h g8)]at hE;rw[hE,ipo rfl];refine acO qb8 ?_;simp (disch:=omega) only[qiL,coC,zb,wdC,qp,qq,qm,zM,tkC,go_sem]
 repeat' first
  |(refine cA (c1 _) flk ?_;simp (disch:=omega) only[zs1,zs2,k0,k1,k2,k3,k4,k5,k6,k7,ew,hc,q1,q2,q3,q4,q5,q6,er,et,q7,q8,q9,el,ea,p1,go_sem])
  |(apply qa;exact rvk;simp only[go_sem];exact qi)
  |with_reducible apply aiA
 all_goals try exact clz
theorem qxv(b:List Wd)(i:Int)(h:List AObj):ACalls Tryz.prog 19 [qZ b,.int .i64 i] h (.tup [.int .i64 (deR b i),.int .i64 (deE b i)]) h:=by
 have zb:qZ b= .sl b.length fun i=>wdC (b.getD i default):=rfl
 obtain⟨E,hE⟩: ∃E,E=deE b i:=⟨_,rfl⟩
 have hR:deR b i=if E=0 then (b.getD i.toNat default).dec else 0:=by rw[hE];rfl
 rw[hR,←hE];unfold deE at hE
 by_cases g1:i<0
 ·have k1:(i<0)=True:=eqt g1;rw[ipo (.inl g1)]at hE;rw[hE,ine (by decide)];refine acO qq1 ?_;simp (disch:=omega) only[qw6,zb,k1,go_sem]
  repeat' first
   |(apply qc;exact rvk;simp only[go_sem];exact qi)
 have k1:(i<0)=False:=eqf g1
 by_cases g2:(b.length:Int)≤i
 ·have k2:((b.length:Int)≤i)=True:=eqt g2;rw[ipo (.inr g2)]at hE;rw[hE,ine (by decide)];refine acO qq1 ?_;simp (disch:=omega) only[qw6,zb,k1,k2,go_sem]
  repeat' first
   |(apply qc;exact rvk;simp only[go_sem];exact qi)
 have k2:((b.length:Int)≤i)=False:=eqf g2;have k3:(0≤i)=True:=eqt om;have k4:(i<b.length)=True:=eqt om;rw[ine om]at hE;rw[hE,ipo rfl];refine acO qq1 ?_;simp (disch:=omega) only[qw6,zb,wdC,k1,k2,k3,k4,go_sem]
 repeat' first
  |(apply qc;exact rvk;simp only[go_sem];exact qi)
theorem qxw(b:List Wd)(i:Int)(h:List AObj):ACalls Tryz.prog 20 [qZ b,.int .i64 i] h (.tup [.int .i64 (deR b i),.int .i64 (deE b i)]) h:=by
 have zb:qZ b= .sl b.length fun i=>wdC (b.getD i default):=rfl
 obtain⟨E,hE⟩: ∃E,E=deE b i:=⟨_,rfl⟩
 have hR:deR b i=if E=0 then (b.getD i.toNat default).dec else 0:=by rw[hE];rfl
 rw[hR,←hE];unfold deE at hE
 by_cases g1:i<0
 ·have k1:(i<0)=True:=eqt g1;rw[ipo (.inl g1)]at hE;rw[hE,ine (by decide)];refine acO qq2 ?_;simp (disch:=omega) only[qw7,zb,k1,go_sem]
  repeat' first
   |(apply qc;exact rvk;simp only[go_sem];exact qi)
 have k1:(i<0)=False:=eqf g1
 by_cases g2:(b.length:Int)≤i
 ·have k2:((b.length:Int)≤i)=True:=eqt g2;rw[ipo (.inr g2)]at hE;rw[hE,ine (by decide)];refine acO qq2 ?_;simp (disch:=omega) only[qw7,zb,k1,k2,go_sem]
  repeat' first
   |(apply qc;exact rvk;simp only[go_sem];exact qi)
 have k2:((b.length:Int)≤i)=False:=eqf g2;have k3:(0≤i)=True:=eqt om;have k4:(i<b.length)=True:=eqt om;rw[ine om]at hE;rw[hE,ipo rfl];refine acO qq2 ?_;simp (disch:=omega) only[qw7,zb,wdC,k1,k2,k3,k4,go_sem]
 repeat' first
  |(apply qc;exact rvk;simp only[go_sem];exact qi)
end RC
end
section
open Go Go.Proofs AF
def qnn:List Nat:= []
def qp3:C:=
 ((C.ops [MC 4 (.bool false)]).seq (((C.ops [MV 6 0,O1 7 .len 6,MV 8 1,O1 9 .len 8,BI 10 .neq 7 9]).seq (C.cond (.t 10) ((C.ops [MC 4 (.bool false)]).seq C.ret) C.skip)).seq
 (((C.ops [MC 5 (i6 0)]).seq (C.block 0 (((C.ops [MV 11 5,MV 12 0,O1 13 .len 12,BI 14 .lss 11 13]).seq (C.cond (.t 14) C.skip (C.exit 0))).seq ((C.block 1 ((C.ops [MV 17 0,MV 18
 5,O2 19 (.idxA 1) 17 18,LD 20 19,MV 21 1,MV 22 5,O2 23 (.idxA 1) 21 22,LD 24 23,BI 25 .neq 20 24]).seq (C.cond (.t 25) ((C.ops [MC 4 (.bool false)]).seq C.ret) C.skip))).seq
 (C.ops [MV 15 5,BC 16 .add 15 (i6 1),MV 5 16]))).loop)).seq ((C.ops [MC 4 (.bool true)]).seq
 C.ret))))
theorem qo7:qI Tryz.prog 235 26 0 [RV.tmp 4] qp3:=fi Tryz.f235 [] qnn []
end
section
open Go Go.Proofs AF HY LN
namespace RC
def bC(p:Nat→Bool)(n:Nat):List AV:=(List.range n).map fun k=> .bool (p k)
theorem qak(p:Nat→Bool)(n:Nat):(bC p n).length=n:=by simp[bC]
theorem qfq{p:Nat→Bool}{n k:Nat}(hk:k<n):(bC p n)[k]? =some (.bool (p k)):=by
 unfold bC;rw[List.getElem?_map,List.getElem?_range hk];rfl
theorem kZ{p q:Nat→Bool}{n:Nat}(h: ∀k,k<n→p k=q k):bC p n=bC q n:=by
 unfold bC;exact List.map_congr_left fun k hk=>by rw[h k (List.mem_range.1 hk)]
theorem qoO{p:Nat→Bool}{n u:Nat}(hu:u<n):List.take u (bC p n)++ [AV.bool true]++List.drop (u+1) (bC p n)=bC (fun k=>p k||decide (k=u)) n:=by
 refine List.ext_getElem? fun k=> ?_
 by_cases hk:k<n
 ·rw[qfq hk]
  by_cases h1:k<u
  ·rw[List.append_assoc,List.getElem?_append_left (by rw[List.length_take,qak];omega),List.getElem?_take_of_lt h1,qfq hk,dqf om,Bool.or_false]
  ·by_cases h2:k=u
   ·subst h2;rw[List.append_assoc,List.getElem?_append_right (by rw[List.length_take,qak];omega),List.length_take,qak,show k-min k n=0 by omega,dqt rfl,Bool.or_true];rfl
   ·rw[List.getElem?_append_right (by rw[lap,List.length_take,qak];simp only[lco,lnl];omega),lap,List.length_take,qak,List.getElem?_drop];simp only[lco,lnl];rw[show u+1+(k-(min u n+(0+1)))=k by omega,qfq hk,dqf h2,Bool.or_false]
 ·rw[List.getElem?_eq_none (by simp only[lap,List.length_take,List.length_drop,qak,lco,lnl];omega),List.getElem?_eq_none (by rw[qak];omega)]
theorem qpN(n:Nat):qQ [AV.bool false] n=bC (fun _=>false) n:=by
 induction n with
 |zero=>rfl
 |succ n ih=>
  have e:bC (fun _=>false) (n+1)=AV.bool false::bC (fun _=>false) n:=by
   unfold bC;rw[List.range_succ_eq_map,List.map_cons,List.map_map];rfl
  rw[e,←ih];rfl
theorem qz1(a b:List Int)(h:List AObj)(h1:a.length≤1000000000)(h2:b.length≤1000000000):ACalls Tryz.prog 235 [qq a,qq b] h (.bool (decide (a=b))) h:=by
 obtain⟨R,hR⟩: ∃R,R=decide (a=b):=⟨_,rfl⟩
 have he:R=decide (a.length=b.length∧ ∀i,i<a.length→a.getD i 0=b.getD i 0):=by rw[hR];exact decide_eq_decide.2 (jg (0:Int))
 rw[←hR]
 by_cases g:a.length=b.length
 case neg=>
  have k1:((a.length:Int)=b.length)=False:=eqf om;rw[dqf (fun hc=>g hc.1)]at he;rw[he];refine acO qo7 ?_;simp (disch:=omega) only[qp3,qq,k1,go_sem]
  repeat' first
   |(apply qc;exact rvk;simp only[go_sem];exact qi)
 have k1:((a.length:Int)=b.length)=True:=eqt om;refine acO qo7 ?_;simp (disch:=omega) only[qp3,qq,k1,go_sem];refine qn (T:=fun i:Nat=>qM 26 [(0,qq a),(1,qq b),(5,.int .i64 i)]) (H:=fun _=>h) (inv:=fun i=>i≤a.length∧ ∀j,j<i→a.getD j 0=b.getD j 0) (m:=fun i=>a.length-i) 0 ⟨nzl _,fun j hj=>absurd hj (nnz j)⟩ (Wk.temps ?_) ?_
 ·(simp only[qq,go_sem,qh,qe,qb,qg];try (repeat' first|(with_reducible apply aiA)|(apply qf;omega)|(apply qd;rfl)|exact qi))
 rintro i ⟨i1,i2⟩ K hK
 by_cases hi:i<a.length
 ·have k2:((i:Int)<a.length)=True:=eqt om;have k3:((i:Int)<b.length)=True:=eqt om;have k0:(0≤(i:Int))=True:=eqt om;have hno: ¬a.getD i 0=b.getD i 0→R=false:=fun hx=>by rw[he];exact dqf fun hc=>hx (hc.2 i hi)
  obtain⟨x,hx⟩: ∃x,x=a.getD i 0:=⟨_,rfl⟩
  obtain⟨y,hy⟩: ∃y,y=b.getD i 0:=⟨_,rfl⟩
  have ex:=hx.symm;have ey:=hy.symm;rw[ex,ey]at hno
  by_cases g2:x=y
  ·have q:(x=y)=True:=eqt g2;simp (disch:=omega) only[qq,k0,k2,k3,ex,ey,q,go_sem]
   repeat' first
    |with_reducible apply aiA
   all_goals try exact clz
   refine hK _ _ (i+1) ⟨hi,fun j hj=> ?_⟩ om (Wk.temps ?_)
   ·by_cases e:j=i
    ·subst e;rw[ex,ey];exact g2
    ·exact i2 j om
   ·(simp only[qq,go_sem,qh,qe,qb,qg];try (repeat' first|(with_reducible apply aiA)|(apply qf;omega)|(apply qd;rfl)|exact qi))
  ·have q:(x=y)=False:=eqf g2;rw[hno g2];simp (disch:=omega) only[qq,k0,k2,k3,ex,ey,q,go_sem]
   repeat' first
    |(apply qc;exact rvk;simp only[go_sem];exact qi)
    |with_reducible apply aiA
   all_goals try exact clz
 ·have k2:((i:Int)<a.length)=False:=eqf om;rw[he,dqt ⟨g,fun j hj=>i2 j om⟩];simp (disch:=omega) only[qq,k2,go_sem]
  repeat' first
   |(apply qc;exact rvk;simp only[go_sem];exact qi)
theorem qz2(a b:List Rd)(h:List AObj)(za:qhN a)(zb:qhN b):ACalls Tryz.prog 179 [zL a,zL b] h (.bool (decide (a=b))) h:=by
 have ha:=za.n;have hb:=zb.n;obtain⟨R,hR⟩: ∃R,R=decide (a=b):=⟨_,rfl⟩
 have he:R=decide (a.length=b.length∧ ∀i,i<a.length→a.getD i default=b.getD i default):=by rw[hR];exact decide_eq_decide.2 (jg (default:Rd))
 rw[←hR]
 by_cases g:a.length=b.length
 case neg=>
  have k1:((a.length:Int)=b.length)=False:=eqf om;rw[dqf (fun hc=>g hc.1)]at he;rw[he];refine acO qo5 ?_;simp (disch:=omega) only[qp1,zL,k1,go_sem]
  repeat' first
   |(apply qc;exact rvk;simp only[go_sem];exact qi)
 have k1:((a.length:Int)=b.length)=True:=eqt om;refine acO qo5 ?_;simp (disch:=omega) only[qp1,zL,k1,go_sem];refine qn (T:=fun i:Nat=>qM 43 [(0,zL a),(1,zL b),(5,.int .i64 i)]) (H:=fun _=>h) (inv:=fun i=>i≤a.length∧ ∀j,j<i→a.getD j default=b.getD j default) (m:=fun i=>a.length-i) 0 ⟨nzl _,fun j hj=>absurd hj (nnz j)⟩ (Wk.temps ?_) ?_
 ·(simp only[zL,go_sem,qh,qe,qb,qg];try (repeat' first|(with_reducible apply aiA)|(apply qf;omega)|(apply qd;rfl)|exact qi))
 rintro i ⟨i1,i2⟩ K hK
 by_cases hi:i<a.length
 ·have k2:((i:Int)<a.length)=True:=eqt om;have k3:((i:Int)<b.length)=True:=eqt om;have k0:(0≤(i:Int))=True:=eqt om;have c1:=fun h=>qym (a.getD i default).words (b.getD i default).words h (za.wd i) (zb.wd i)
  have c2:=fun h=>qz1 (a.getD i default).src (b.getD i default).src h (za.sr i) (zb.sr i)
  have hno: ¬a.getD i default=b.getD i default→R=false:=fun hx=>by rw[he];exact dqf fun hc=>hx (hc.2 i hi)
  obtain⟨x,hx⟩: ∃x,x=a.getD i default:=⟨_,rfl⟩
  obtain⟨y,hy⟩: ∃y,y=b.getD i default:=⟨_,rfl⟩
  have ex:=hx.symm;have ey:=hy.symm;rw[ex,ey]at hno;simp only[ex,ey]at c1 c2
  by_cases g2:x.words=y.words
  case neg=>
   rw[dqf g2]at c1;rw[hno (fun e=>g2 (qnU.1 e).1)];simp (disch:=omega) only[zL,rdC,k0,k2,k3,ex,ey,go_sem]
   repeat' first
    |(refine qj ( .bool false) ?_;simp (disch:=omega) only[go_sem])
    |(refine cA (c1 _) flk ?_;simp (disch:=omega) only[k0,k2,k3,ex,ey,go_sem])
    |(apply qc;exact rvk;simp only[go_sem];exact qi)
  rw[dqt g2]at c1
  by_cases g3:x.src=y.src
  ·rw[dqt g3]at c2;simp (disch:=omega) only[zL,rdC,k0,k2,k3,ex,ey,go_sem]
   repeat' first
    |((first|refine cA (c1 _) ?_ ?_|refine cG (fun e=>c2 _) ?_ ?_);exact flk;simp (disch:=omega) only[k0,k2,k3,ex,ey,go_sem])
    |with_reducible apply aiA
   all_goals try exact clz
   refine hK _ _ (i+1) ⟨hi,fun j hj=> ?_⟩ om (Wk.temps ?_)
   ·by_cases e:j=i
    ·subst e;rw[ex,ey];exact qnU.2 ⟨g2,g3⟩
    ·exact i2 j om
   ·(simp only[zL,go_sem,qh,qe,qb,qg];try (repeat' first|(with_reducible apply aiA)|(apply qf;omega)|(apply qd;rfl)|exact qi))
  ·rw[dqf g3]at c2;rw[hno (fun e=>g3 (qnU.1 e).2)];simp (disch:=omega) only[zL,rdC,k0,k2,k3,ex,ey,go_sem]
   repeat' first
    |((first|refine cA (c1 _) ?_ ?_|refine cG (fun e=>c2 _) ?_ ?_);exact flk;simp (disch:=omega) only[k0,k2,k3,ex,ey,go_sem])
    |(apply qc;exact rvk;simp only[go_sem];exact qi)
    |with_reducible apply aiA
   all_goals try exact clz
 ·have k2:((i:Int)<a.length)=False:=eqf om;rw[he,dqt ⟨g,fun j hj=>i2 j om⟩];simp (disch:=omega) only[zL,k2,go_sem]
  repeat' first
   |(apply qc;exact rvk;simp only[go_sem];exact qi)
theorem qzq(x:Co)(k:Nat)(h:List AObj)(ho:CoOk x)(hk:k<x.col.length):ACalls Tryz.prog 181 [.agg (coC x),qq (x.col.getD k [])] h (.bool (cmB x k)) h:=by
 have hsg:=ho.sg;have hcl:=ho.cl k hk;have htn:=ho.tn;obtain⟨R,hR⟩: ∃R,R=cmB x k:=⟨_,rfl⟩
 rw[←hR];unfold cmB at hR;have hce:=ho.ce k hk;have hct: ∀s,clT x k s=if (x.col.getD k []).getD s 0<0 then none else some ((x.tok.getD s []).getD ((x.col.getD k []).getD s 0).toNat default).text:=fun _=>rfl
 obtain⟨c,hc⟩: ∃c,c=x.col.getD k []:=⟨_,rfl⟩
 rw[←hc]at hcl hce ⊢;simp only[←hc]at hct;refine acO quA ?_;simp (disch:=omega) only[qth,coC,qq,go_sem];refine qn (T:=fun i:Nat=>qM 42 [(1,qq c),(2,.op h.length 1 0),(5,.int .i64 i)]) (H:=fun _=>h++ [.mem 1 26 (coC x)])
  (inv:=fun i=>i≤c.length∧ ∀j,j<i→(decide (clT x k j=none)|| !decide (clT x k j=clT x k 0))=false) (m:=fun i=>c.length-i) 0 ⟨nzl _,fun j hj=>absurd hj (nnz j)⟩ (Wk.temps ?_) ?_
 ·(simp only[qq,go_sem,qh,qe,qb,qg];try (repeat' first|(with_reducible apply aiA)|(apply qf;omega)|(apply qd;rfl)|exact qi))
 rintro i ⟨i1,i2⟩ K hK
 by_cases hi:i<c.length
 ·have k1:((i:Int)<c.length)=True:=eqt om;have k0:(0≤(i:Int))=True:=eqt om;have k2:((0:Int)<c.length)=True:=eqt om;have k3:((i:Int)<x.tok.length)=True:=eqt om;have k4:((0:Int)<x.tok.length)=True:=eqt om;have hno:(decide (clT x k i=none)|| !decide (clT x k i=clT x k 0))=true→R=false:=fun hx=>by rw[hR,qv.2 ⟨i,om,hx⟩];rfl
  have hS:(decide (clT x k i=none)|| !decide (clT x k i=clT x k 0))=false→ ∀j,j<i+1→(decide (clT x k j=none)|| !decide (clT x k j=clT x k 0))=false:=fun hx j hj=>by
   by_cases e:j=i
   ·subst e;exact hx
   ·exact i2 j om
  have h0:c.getD i 0<0∨(0≤c.getD 0 0):=by
   by_cases e:i=0
   ·subst e;omega
   ·have:=i2 0 om
    have h1:=hct 0
    by_cases g:c.getD 0 0<0
    ·rw[ipo g]at h1;rw[h1]at this;simp at this
    ·exact .inr om
  have e1:=hce i om;have e2:=hce 0 om;have t1:=hct i;have t2:=hct 0;obtain⟨t,ht⟩: ∃t,t=c.getD i 0:=⟨_,rfl⟩
  obtain⟨t0,ht0⟩: ∃t0,t0=c.getD 0 0:=⟨_,rfl⟩
  have et:=ht.symm;have et0:=ht0.symm;rw[et]at h0 e1 t1;rw[et0]at h0 e2 t2;obtain⟨l,hl⟩: ∃l,l=x.tok.getD i []:=⟨_,rfl⟩
  obtain⟨l0,hl0⟩: ∃l0,l0=x.tok.getD 0 []:=⟨_,rfl⟩
  have el:=hl.symm;have el0:=hl0.symm;rw[el]at e1 t1;rw[el0]at e2 t2
  by_cases g:t<0
  ·have q1:(t<0)=True:=eqt g;rw[ipo g]at t1;rw[hno (by rw[t1];rfl)];simp (disch:=omega) only[coC,qq,k0,k1,et,q1,go_sem]
   repeat' first
    |(apply qa;exact rvk;simp only[go_sem];exact qi)
    |with_reducible apply aiA
   all_goals try exact clz
  have q1:(t<0)=False:=eqf g;rw[ine g]at t1;have g0: ¬t0<0:=by omega
  rw[ine g0]at t2;have q2:(0≤t)=True:=eqt om;have q3:(0≤t0)=True:=eqt om;have q4:(t<l.length)=True:=eqt (by rcases e1 with e|e;omega;omega);have q5:(t0<l0.length)=True:=eqt (by rcases e2 with e|e;omega;omega);obtain⟨a,ha⟩: ∃a,a=l.getD t.toNat default:=⟨_,rfl⟩
  obtain⟨a0,ha0⟩: ∃a0,a0=l0.getD t0.toNat default:=⟨_,rfl⟩
  have ea:=ha.symm;have ea0:=ha0.symm;rw[ea]at t1;rw[ea0]at t2;rw[t1,t2]at hno;have z0:Int.toNat 0=0:=rfl
  by_cases g2:a.text=a0.text
  ·have q6:(a.text=a0.text)=True:=eqt g2;simp (disch:=omega) only[coC,qq,qm,zM,tkC,k0,k1,k2,k3,k4,et,et0,el,el0,ea,ea0,q1,q2,q3,q4,q5,q6,z0,go_sem]
   repeat' first
    |with_reducible apply aiA
   all_goals try exact clz
   refine hK _ _ (i+1) ⟨hi,hS (by rw[t1,t2,g2];simp)⟩ om (Wk.temps ?_)
   (simp only[qq,go_sem,qh,qe,qb,qg];try (repeat' first|(with_reducible apply aiA)|(apply qf;omega)|(apply qd;rfl)|exact qi))
  ·have q6:(a.text=a0.text)=False:=eqf g2;rw[hno (by simp[g2])];simp (disch:=omega) only[coC,qq,qm,zM,tkC,k0,k1,k2,k3,k4,et,et0,el,el0,ea,ea0,q1,q2,q3,q4,q5,q6,z0,go_sem]
   repeat' first
    |(apply qa;exact rvk;simp only[go_sem];exact qi)
    |with_reducible apply aiA
   all_goals try exact clz
 ·have k1:((i:Int)<c.length)=False:=eqf om;have hV:R=true:=by rw[hR,qk.2 fun j hj=>i2 j om];rfl
  rw[hV];simp (disch:=omega) only[coC,qq,k1,go_sem]
  repeat' first
   |(apply qa;exact rvk;simp only[go_sem];exact qi)
theorem qzQ(x:Co)(f t s:Nat)(h:List AObj)(ho:CoOk x)(ht:t≤x.col.length)(hs:s<x.sig.length)(hn:x.col.length≤1000000000):ACalls Tryz.prog 236 [.agg (coC x),.int .i64 (f:Int),.int .i64 (t:Int),.int .i64 (s:Int)] h (strs (rdG x s f (t-f))) h:=by
 have htn:=ho.tn;refine acO quJ ?_;simp (disch:=omega) only[qtp,coC,go_sem];have eM:qQ [AV.str []] 0=zZ (rdG x s f 0):=rfl;rw[eM];refine qn (T:=fun i:Nat×Nat×AObj=>qM 42 [(2,.int .i64 (t:Int)),(3,.int .i64 (s:Int)),(4,.op h.length 1 0),(9,.osl (h.length+2) i.2.1 1 0 (rdG x s f i.1).length),(10,.int .i64 ((f+i.1:Nat):Int))])
  (H:=fun i=>h++ [.mem 1 26 (coC x),.emp 1,.mem i.2.1 9 (zZ (rdG x s f i.1)),i.2.2,.emp 0])
  (inv:=fun i=>i.1≤t-f∧qP [i.2.2] 0=true) (m:=fun i=>t-f-i.1) (0,1,.emp 0) ⟨nzl _,rfl⟩ (Wk.temps ?_) ?_
 ·(simp only[rdG,lnl,Nat.add_zero,go_sem,qh,qe,qb,qg];try (repeat' first|(with_reducible apply aiA)|(apply qf;omega)|(apply qd;rfl)|exact qi))
 rintro⟨d,v,O⟩ ⟨i1,i2⟩ K hK;simp only at i1 i2 hK;have i2': ∀m,qP (O::m) 0=true:=fun _=>i2
 have hln:=qap x s f d;have hst:rdG x s f (d+1)=rdG x s f d++(clT x (f+d) s).toList:=rfl;obtain⟨L,hL⟩: ∃L,L=rdG x s f d:=⟨_,rfl⟩
 rw[←hL]at hln hst;have eL:=hL.symm;have eC:=zO L
 by_cases hi:f+d<t
 ·have k1:(((f+d:Nat):Int)<t)=True:=eqt om;have k2:(((f+d:Nat):Int)<x.col.length)=True:=eqt om;have k0:(0≤((f+d:Nat):Int))=True:=eqt om;have k3:((s:Int)<x.tok.length)=True:=eqt om;have k4:(0≤(s:Int))=True:=eqt om;have hct:clT x (f+d) s=if (x.col.getD (f+d) []).getD s 0<0 then none else some ((x.tok.getD s []).getD ((x.col.getD (f+d) []).getD s 0).toNat default).text:=rfl
  have hce:=ho.ce (f+d) om s hs;have hcl:=ho.cl (f+d) om;obtain⟨c,hc⟩: ∃c,c=x.col.getD (f+d) []:=⟨_,rfl⟩
  have ec:=hc.symm;rw[ec]at hct hce hcl;have k5:((s:Int)<c.length)=True:=eqt om;obtain⟨q,hq⟩: ∃q,q=c.getD s 0:=⟨_,rfl⟩
  have eq:=hq.symm;rw[eq]at hct hce;obtain⟨l,hl⟩: ∃l,l=x.tok.getD s []:=⟨_,rfl⟩
  have el:=hl.symm;rw[el]at hct hce;have eTk:List.take L.length (zZ L)=zZ L:=ltl om
  by_cases g:q<0
  ·have q1:(q<0)=True:=eqt g;have q1':(0≤q)=False:=eqf om;rw[ipo g]at hct;have hst:rdG x s f (d+1)=L:=by rw[hst,hct];simp
   simp (disch:=omega) only[coC,qp,qq,k0,k1,k2,k4,k5,i2',eL,ec,eq,q1',go_sem]
   repeat' first
    |with_reducible apply aiA
   all_goals try exact clz
   refine hK _ _ (d+1,v,O) ⟨om,i2⟩ (by simp only;omega) ?_;simp only[hst];refine Wk.temps ?_
   (simp only[go_sem,qh,qe,qb,qg];try (repeat' first|(with_reducible apply aiA)|(apply qf;omega)|(apply qd;rfl)|exact qi))
  ·have q1:(q<0)=False:=eqf g;have q1':(0≤q)=True:=eqt om;have q2:(q<l.length)=True:=eqt (by rcases hce with e|e;omega;omega);rw[ine g]at hct;obtain⟨w,hw⟩: ∃w,w=l.getD q.toNat default:=⟨_,rfl⟩
   have ew:=hw.symm;rw[ew]at hct;have hst:rdG x s f (d+1)=L++ [w.text]:=by rw[hst,hct];rfl
   simp (disch:=omega) only[coC,qp,qq,qm,zM,tkC,k0,k1,k2,k3,k4,k5,i2',eL,ec,eq,el,ew,q1',q2,Nat.mul_one,eC,eTk,go_sem]
   repeat' first
    |with_reducible apply aiA
   all_goals try exact clz
   have eA:zZ L++ [AV.str w.text]=zZ (rdG x s f (d+1)):=by rw[hst,qbD];rfl
   have eD:(AV.str w.text::List.drop 1 (qQ [AV.str []] 1))= [AV.str w.text]:=rfl
   try rw[eA]
   try rw[eD]
   refine hK _ _ (d+1,v+1,.mem (qr (some O)+1) 9 [.str w.text]) ⟨om,rfl⟩ (by simp only;omega) ?_;simp only[hst,lap,lco,lnl];refine Wk.temps ?_
   (simp only[go_sem,qh,qe,qb,qg];try (repeat' first|(with_reducible apply aiA)|(apply qf;omega)|(apply qd;rfl)|exact qi))
 ·have k1:(((f+d:Nat):Int)<t)=False:=eqf om;obtain rfl:d=t-f:=by omega
  rw[eL];simp (disch:=omega) only[k1,go_sem]
  repeat' first
   |(apply qa;exact rvk;simp only[go_sem])
  rw[ipo (by rw[zO];exact nlr _)];exact qaN _ (fun _=>rfl) rfl
theorem qx5{h M:List AObj}{a0 a1 a2 a3 a4 a5 a6 a7:AObj}:(h++a0::a1::a2::a3::a4::a5::a6::a7::M).length=h.length+8+M.length:=by
 simp only[lap,lco];omega
theorem qfG{h M:List AObj}{a0 a1 a2 a3 a4 a5 a6 a7:AObj}{j:Nat}:getO (h.length+8+j) (h++a0::a1::a2::a3::a4::a5::a6::a7::M)=M[j]? :=by
 unfold getO;rw[List.getElem?_append_right om,show h.length+8+j-h.length=j+8 by omega];rfl
theorem qwd{h M:List AObj}{a0 a1 a2 a3 a4 a5 a6 a7 o:AObj}{j:Nat}:setO (h.length+8+j) (h++a0::a1::a2::a3::a4::a5::a6::a7::M) o=h++a0::a1::a2::a3::a4::a5::a6::a7::M.set j o:=by
 unfold setO;rw[List.set_append_right _ _ om,show h.length+8+j-h.length=j+8 by omega];rfl
theorem qnV{base:Nat}{L:List Rd}{fz:Nat→Bool}{H:List AObj}{d:Nat}(hf: ∀j,j<L.length→fz (base+j)=true)(hj: ∀j,j<L.length→getO (base+j) H=some (.mem (L.getD j default).src.length 3 (qW (L.getD j default).src))):
  VLe (.sl L.length fun i=>List.map (rei fz H (d+2)) (List.take 2 (List.drop (i*2) (jn base L)))) (zL L):=by
 refine VLe.sl (fun i hi=> ?_);rw[qfT hi];refine⟨ILe.refl _,?_,trivial⟩;show ILe (rei fz H (d+1+1) (.osl (base+i) _ 1 0 _)) _;rw[rei_osl,ipo (hf i hi),hj i hi];exact qfI (fun _=>rfl) rfl
theorem qzT(x:Co)(f t:Nat)(h:List AObj)(ho:CoOk x)(ht:t≤x.col.length)(hn:x.col.length≤1000000000):ACalls Tryz.prog 180 [.agg (coC x),.int .i64 (f:Int),.int .i64 (t:Int)] h (zL (qcy x f t)) h:=by
 have zl: ∀g,valL g .len [strs x.sig]= .int .i64 x.sig.length:=fun _=>rfl
 have zo: ∀g,okL g .len [strs x.sig]=True:=fun _=>eqt trivial
 refine acO quz ?_;simp (disch:=omega) only[qtg,coC,go_sem];have eM:qQ [AV.nl,AV.nl] 0=jn (h.length+8) (jJ x f (t-f) 0):=rfl
 try rw[eM]
 have eO: ∀l:List AObj,l=l++qcx (jJ x f (t-f) 0):=fun l=>by simp[jJ,qcx]
 refine qn (T:=fun i:Nat×Nat×AObj×AObj×AObj=>qM 64 [(1,.int .i64 (f:Int)),(2,.int .i64 (t:Int)),(3,.op h.length 1 0),(7,.osl (h.length+2) i.2.1 2 0 (jJ x f (t-f) i.1).length),(8,.int .i64 i.1)])
  (H:=fun i=>h++ .mem 1 26 (coC x):: .emp 1:: .mem i.2.1 89 (jn (h.length+8) (jJ x f (t-f) i.1))::i.2.2.1:: .emp 0::i.2.2.2.1::i.2.2.2.2:: .emp 0::qcx (jJ x f (t-f) i.1))
  (inv:=fun i=>i.1≤x.sig.length∧qP [i.2.2.1] 0=true∧qP [i.2.2.2.1] 0=true∧qP [i.2.2.2.2] 0=true) (m:=fun i=>x.sig.length-i.1) (0,1,.emp 0,.emp 0,.emp 0) ⟨nzl _,rfl,rfl,rfl⟩ (Wk.temps ?_) ?_
 ·(simp only[jJ,lnl,go_sem,qh,qe,qb,qg];try (repeat' first|(with_reducible apply aiA)|(apply qf;omega)|(apply qd;rfl)|exact qi))
 rintro⟨s,v,O3,O5,O6⟩ ⟨i1,j3,j5,j6⟩ K hK;simp only at i1 j3 j5 j6 hK;have j5': ∀m,qP (O5::m) 0=true:=fun _=>j5
 have j6': ∀m,qP (O6::m) 0=true:=fun _=>j6
 have hst:jJ x f (t-f) (s+1)=qcI (jJ x f (t-f) s) (rdG x s f (t-f)) s:=rfl;have hln:=qc7 x f (t-f) s;have hsg:=ho.sg;obtain⟨L,hL⟩: ∃L,L=jJ x f (t-f) s:=⟨_,rfl⟩
 rw[←hL]at hst hln;have eL:=hL.symm
 by_cases hs:s<x.sig.length
 case neg=>
  have k1:((s:Int)<x.sig.length)=False:=eqf om;obtain rfl:s=x.sig.length:=by omega
  have hF:qcy x f t=L:=by rw[hL];rfl
  rw[hF];simp (disch:=omega) only[k1,eL,coC,zl,zo,go_sem]
  repeat' first
   |(apply qa;exact rvk;simp only[go_sem])
  rw[ipo (by rw[qaf];omega)];exact qnV (d:=5) (fun j _=>dqt om) (fun j hj=>by rw[qfG];exact qc5 hj)
 have k1:((s:Int)<x.sig.length)=True:=eqt om;have c21:=fun h=>qzQ x f t s h ho ht hs hn
 have hRd:=qc6 x f (t-f) s;obtain⟨w,hw⟩: ∃w,w=rdG x s f (t-f):=⟨_,rfl⟩
 have hwl:w.length≤1000000000:=by have:=qap x s f (t-f);rw[←hw]at this;omega
 rw[←hw]at hst;simp only[←hw]at c21;unfold coC at c21;rw[eL]at hRd;have hwL: ∀j,(L.getD j default).words.length≤1000000000:=zj L (fun r=>r.words.length≤1000000000) (by decide) fun j hj=>by
  have h1:=hRd.nn j hj;obtain⟨y,ys,e⟩:=List.exists_cons_of_ne_nil h1;have h2:=hRd.wd j hj y (by rw[e];exact List.mem_cons_self);rw[h2]
  have:=qap x y.toNat f (t-f)
  omega
 have hob:= @qc5 L;have eKl:=qaf (h.length+8) L;simp (disch:=omega) only[coC,k1,eL,zl,zo,go_sem]
 repeat' first
  |(refine cA (c21 _) flk ?_;simp (disch:=omega) only[go_sem])
 --the search
 refine qn (T:=fun i:Nat×Bool×AObj=>qM 64 [(1,.int .i64 (f:Int)),(2,.int .i64 (t:Int)),(3,.op h.length 1 0),(7,.osl (h.length+2) v 2 0 L.length),(8,.int .i64 s),(9,strs w),(10,.bool i.2.1),(11,.int .i64 i.1)])
  (H:=fun i=>h++ .mem 1 26 (coC x):: .emp 1:: .mem v 89 (jn (h.length+8) (if i.2.1=true then jJ x f (t-f) (s+1) else L))::i.2.2:: .emp 0::O5::O6:: .emp 0::qcx (if i.2.1=true then jJ x f (t-f) (s+1) else L))
  (inv:=fun i=>i.1≤L.length∧qP [i.2.2] 0=true∧(i.2.1=false→ ∀j,j<i.1→(L.getD j default).words≠w)∧(i.2.1=true→(jJ x f (t-f) (s+1)).length=L.length)) (m:=fun i=>L.length-i.1) (0,false,O3) ⟨nzl _,j3,fun _ j hj=>absurd hj (nnz j),fun e=>(by cases e)⟩ (Wk.temps ?_) ?_
 ·(simp only[go_sem,qh,qe,qb,qg];try (repeat' first|(with_reducible apply aiA)|(apply qf;omega)|(apply qd;rfl)|exact qi))
 rintro⟨k,fd,O4⟩ ⟨m1,m2,m3,m4⟩ K2 hK2;simp only at m1 m2 m3 m4 hK2;have m2': ∀m,qP (O4::m) 0=true:=fun _=>m2
 cases fd with
 |true=>
  have m4:=m4 rfl;have hS:L.length=(jJ x f (t-f) (s+1)).length:=m4.symm;simp only[if_true]at hK2 ⊢
  by_cases hk:k<L.length
  ·have t1:((k:Int)<L.length)=True:=eqt om;simp (disch:=omega) only[t1,go_sem];refine hK _ _ (s+1,v,O4,O5,O6) ⟨hs,m2,j5,j6⟩ (by simp only;omega) ?_;simp only[←hS];refine Wk.temps ?_
   (simp only[go_sem,qh,qe,qb,qg];try (repeat' first|(with_reducible apply aiA)|(apply qf;omega)|(apply qd;rfl)|exact qi))
  ·have t1:((k:Int)<L.length)=False:=eqf om;simp (disch:=omega) only[t1,go_sem];refine hK _ _ (s+1,v,O4,O5,O6) ⟨hs,m2,j5,j6⟩ (by simp only;omega) ?_;simp only[←hS];refine Wk.temps ?_
   (simp only[go_sem,qh,qe,qb,qg];try (repeat' first|(with_reducible apply aiA)|(apply qf;omega)|(apply qd;rfl)|exact qi))
 |false=>
 have m3:=m3 rfl;simp only[Bool.false_eq_true,if_false]at hK2 ⊢
 by_cases hk:k<L.length
 ·have t1:((k:Int)<L.length)=True:=eqt om;have t0:(0≤(k:Int))=True:=eqt om;have c86:=fun h=>qym (L.getD k default).words w h (hwL k) hwl
  obtain⟨A,B,a1,a2,a3⟩:=qa0 (h.length+8) L hk;have a3:=a3 ((L.getD k default).src++ [(s:Int)]);have hob:=hob hk;have gw:(jn (h.length+8) L)[k*2]? =some (strs (L.getD k default).words):=by
   rw[a2,List.append_assoc,List.getElem?_append_right om,show k*2-A.length=0 by omega];rfl
  have gg:(jn (h.length+8) L)[k*2+1]? =some (.osl (h.length+8+k) (L.getD k default).src.length 1 0 (L.getD k default).src.length):=by
   rw[a2,List.append_assoc,List.getElem?_append_right om,show k*2+1-A.length=1 by omega];rfl
  have hSl:(L.getD k default).src.length≤1000:=by
   have:=(qbC x f (t-f) s).src (L.getD k default) (by rw[eL,gdqA,jr hk];exact List.getElem_mem hk)
   have:=qcL (hi:=(s:Int)) (lo:=0) this.1 this.2
   omega
  have hrd:qem L w=k→jJ x f (t-f) (s+1)=L.set k ⟨w,(L.getD k default).src++ [(s:Int)]⟩:=fun e=>by
   rw[hst];unfold qcI;rw[e,ine om,itn]
  obtain⟨r,hr⟩: ∃r,r=L.getD k default:=⟨_,rfl⟩
  have er:=hr.symm;rw[er]at a2 a3 hob gw gg hSl hrd;simp only[er]at c86;have k22:(k*2+2≤(jn (h.length+8) L).length)=True:=eqt om;have k21:(k*2+1≤(jn (h.length+8) L).length)=True:=eqt om
  by_cases g:r.words=w
  case neg=>
   rw[dqf g]at c86;simp (disch:=omega) only[t0,t1,gw,eKl,Option.getD_some,Option.isSome_some,Nat.mul_one,go_sem]
   repeat' first
    |(refine cA (c86 _) flk ?_;simp (disch:=omega) only[t0,t1,eKl,Option.getD_some,Option.isSome_some,Nat.mul_one,go_sem])
    |with_reducible apply aiA
   all_goals try exact clz
   refine hK2 _ _ (k+1,false,O4) ⟨hk,m2,fun _ j hj=> ?_,fun e=>(by cases e)⟩ (by simp only;omega) ?_
   ·by_cases e:j=k
    ·subst e;rw[er];exact g
    ·exact m3 j (by simp only at hj;omega)
   simp only[Bool.false_eq_true,if_false];refine Wk.temps ?_
   (simp only[go_sem,qh,qe,qb,qg];try (repeat' first|(with_reducible apply aiA)|(apply qf;omega)|(apply qd;rfl)|exact qi))
  rw[dqt g]at c86;have hix:qem L w=k:=by
   unfold qem;refine kl hk (fun j hj=>dqf fun e=>m3 j hj e.symm) (dqt ?_);rw[er,g]
  have hst2:=hrd hix;have hos:= @qfW L k ⟨w,r.src++ [(s:Int)]⟩;rw[←hst2]at hos;rw[g,←hst2]at a3;rw[g]at a2;dsimp only at hos;obtain⟨S,hS⟩: ∃S,S=r.src:=⟨_,rfl⟩
  rw[←hS]at a2 a3 hob hos gg hSl;rw[lap,List.length_singleton]at a3 hos;rw[qaB,show qW [(s:Int)]= [AV.int .i64 (s:Int)]from rfl]at hos;have gs:List.take (k*2+1) (jn (h.length+8) L)++ [.osl (h.length+8+k) (S.length+1) 1 0 (S.length+1)]++List.drop (k*2+1+1) (jn (h.length+8) L)=jn (h.length+8) (jJ x f (t-f) (s+1)):=by
   rw[a2,a3];exact qjf om
  have eI:=zx S;have el2:(jJ x f (t-f) (s+1)).length=L.length:=by rw[hst2,List.length_set]
  have eTi:List.take S.length (qW S)=qW S:=ltl om;simp (disch:=omega) only[t0,t1,gw,eKl,Option.getD_some,Option.isSome_some,Nat.mul_one,itn,go_sem]
  repeat' first
   |(refine cA (c86 _) flk ?_;simp (disch:=omega) only[t0,t1,gg,m2',eKl,Option.getD_some,Option.isSome_some,qfG,qwd,hob,eTi,Nat.mul_one,itn,go_sem])
   |with_reducible apply aiA
  all_goals try exact clz
  all_goals try (simp only[qaD,jf,qfG,hob,qaY,je,if_true,Option.getD_some,eI,beq_self_eq_true];done)
  all_goals try (simp only[bne_iff_ne];omega)
  all_goals try (simp only[jf,qfG,hob,je,if_true,Option.getD_some,eI];exact nlr _)
  rw[gs];have eD:(AV.int .i64 (s:Int)::List.drop 1 (qQ [i6 0] 1))= [AV.int .i64 (s:Int)]:=rfl;simp only[eD];rw[hos];refine hK2 _ _ (k+1,true,.mem (qr (some O4)+1) 3 [.int .i64 (s:Int)]) ⟨hk,rfl,fun e=>(by cases e),fun _=>el2⟩ (by simp only;omega) ?_;simp only[if_true,coC];refine Wk.temps ?_
  (simp only[go_sem,qh,qe,qb,qg];try (repeat' first|(with_reducible apply aiA)|(apply qf;omega)|(apply qd;rfl)|exact qi))
 --not there
 obtain rfl:k=L.length:=by omega
 have t1:((L.length:Int)<L.length)=False:=eqf om;have hix:qem L w<0:=by
  rcases qae L w with⟨i,h1,h2,_⟩|⟨_,h2⟩
  ·exact absurd h2 (m3 i h1)
  ·exact h2
 have hst2:jJ x f (t-f) (s+1)=L++ [⟨w,[(s:Int)]⟩]:=by
  rw[hst];unfold qcI;rw[ipo hix]
 have eTk:List.take (L.length*2) (jn (h.length+8) L)=jn (h.length+8) L:=ltl om;clear hK2;simp (disch:=omega) only[t1,j5',j6',eTk,eKl,Nat.mul_one,go_sem]
 repeat' first
  |with_reducible apply aiA
 all_goals try exact clz
 have el2:(jJ x f (t-f) (s+1)).length=L.length+1:=by rw[hst2,lap];rfl
 have eo:qcx (jJ x f (t-f) (s+1))=qcx L++ [.mem 1 3 [.int .i64 (s:Int)]]:=by rw[hst2,qfU];rfl
 have ek:jn (h.length+8) (jJ x f (t-f) (s+1))=jn (h.length+8) L++ [strs w,.osl (h.length+8+L.length) 1 1 0 1]:=by rw[hst2,qdY];rfl
 have eset:(jn (h.length+8) L++ [strs w,AV.osl (h.length+5) (qr (some O5)+1) 1 0 1]).set (L.length*2+1) (.osl (h.length+8+L.length) 1 1 0 1)=jn (h.length+8) L++ [strs w,.osl (h.length+8+L.length) 1 1 0 1]:=by
  rw[List.set_append_right _ _ om,eKl,show L.length*2+1-2*L.length=1 by omega];rfl
 refine hK _ _ (s+1,v+1,O4,.emp (qr (some O5)+1+1),.mem (qr (some O6)+1) 89 [strs w,.osl (h.length+5) (qr (some O5)+1) 1 0 1]) ⟨hs,m2,rfl,rfl⟩ (by simp only;omega)
  (Wk.trans (Wk.moveCell (i:=h.length+2) (j:=h.length+5) (a:=L.length*2+1) (w:=v+1) (v:=qr (some O5)+1) (ty:=3) (ty':=89) (ds:=jn (h.length+8) L++ [strs w,.osl (h.length+5) (qr (some O5)+1) 1 0 1]) (cs:= [.int .i64 (s:Int)]) (sz:=1) (off:=0) (len:=1) ?m1 ?m2 ?m3 om) ?m4)
 case m1=>simp only[go_sem]
 case m2=>
  rw[List.getElem?_append_right om,show L.length*2+1-(jn (h.length+8) L).length=1 by omega];rfl
 case m3=>simp only[go_sem];rfl
 case m4=>
  have eD:(AV.int .i64 (s:Int)::List.drop 1 (qQ [i6 0] 1))= [AV.int .i64 (s:Int)]:=rfl;have eD2: ∀c:AV,(strs w::c::List.drop 2 (qQ [AV.nl,AV.nl] 1))= [strs w,c]:=fun _=>rfl
  simp only[eo,ek,el2,coC,eD,eD2,qx5,qfV,go_sem,eset,List.append_assoc,lca];refine Wk.temps ?_
  (simp only[go_sem,qh,qe,qb,qg];try (repeat' first|(with_reducible apply aiA)|(apply qf;omega)|(apply qd;rfl)|exact qi))
def cvN(l:List Un)(i k:Nat):Bool:=zH (fun j=>decide ((l.getD j default).frm≤k)&&decide ((k:Int)<(l.getD j default).to)) i
theorem qqA(l:List Un)(k:Nat):cvN l l.length k=cvB l k:=rfl
theorem qyq(x:Co)(l:List Un)(h:List AObj)(hz:qen x)(hu:qeo l)(hp:ky SG h):ACalls Tryz.prog 115 [.agg (coC x),qz l] h (.int .i64 (vaE x l)) h:=by
 have c82:=fun l'=>coR x (h++l') hz (hp.app l')
 obtain⟨R,hR⟩: ∃R,R=vaE x l:=⟨_,rfl⟩
 rw[←hR];unfold vaE rgB qlD cvA at hR;obtain⟨e,he⟩: ∃e,e=coE x:=⟨_,rfl⟩
 have eh:=he.symm;rw[eh]at c82 hR;unfold coC at c82
 by_cases g:e=0
 case neg=>
  have k1:(e=0)=False:=eqf g;rw[ipo g]at hR;rw[hR];refine acO qoZ ?_;simp (disch:=omega) only[qpX,coC,go_sem]
  repeat' first
   |(refine cA (c82 _) flk ?_;simp (disch:=omega) only[k1,go_sem])
   |(apply qa;exact rvk;simp only[go_sem];exact qi)
 have k1:(e=0)=True:=eqt g;rw[ine (fun hc=>hc g)]at hR;have ho:=qco (eh.trans g);have hcl:=hz.cl;have hn:=hu.n;have zl: ∀g,valL g .len [qp x.col]= .int .i64 x.col.length:=fun _=>rfl
 have zo: ∀g,okL g .len [qp x.col]=True:=fun _=>eqt trivial
 have k0:(0≤(x.col.length:Int))=True:=eqt om;have k2:((x.col.length:Int)≤9223372036854775807)=True:=eqt om;refine acO qoZ ?_;simp (disch:=omega) only[qpX,coC,go_sem]
 repeat' first
  |(refine cA (c82 _) flk ?_;simp (disch:=omega) only[k1,k0,zl,zo,go_sem])
  |with_reducible apply aiA
 all_goals try exact clz
 all_goals try rw[itn]
 rw[qpN];have p0:bC (fun _=>false) x.col.length=bC (cvN l 0) x.col.length:=rfl;rw[p0];refine qn (T:=fun i:Nat×AObj=>qM 105 [(1,qz l),(2,.op h.length 1 0),(5,.osl (h.length+1) 1 1 0 x.col.length),(6,.int .i64 i.1)])
  (H:=fun i=>h++ [.mem 1 26 (coC x),.mem 1 4 (bC (cvN l i.1) x.col.length),i.2])
  (inv:=fun i=>i.1≤l.length∧qP [i.2] 0=true∧ ∀j,j<i.1→unB x (beH l j) (l.getD j default)=true) (m:=fun i=>l.length-i.1) (0,.emp 0) ⟨nzl _,rfl,fun j hj=>absurd hj (nnz j)⟩ (Wk.temps ?_) ?_
 ·(simp only[qz,go_sem,qh,qe,qb,qg];try (repeat' first|(with_reducible apply aiA)|(apply qf;omega)|(apply qd;rfl)|exact qi))
 rintro⟨i,O⟩ ⟨i1,i2,i3⟩ K hK;simp only at i1 i2 i3 hK;have i2': ∀m,qP (O::m) 0=true:=fun _=>i2
 by_cases hi:i<l.length
 ·have t1:((i:Int)<l.length)=True:=eqt om;have t0:(0≤(i:Int))=True:=eqt om;have hno:unB x (beH l i) (l.getD i default)=false→R=20:=fun hx=>by
   rw[hR,ipo];rw[qv.2 ⟨i,hi,by rw[hx];rfl⟩];rfl
  have hun:unB x (beH l i) (l.getD i default)= !(decide ((l.getD i default).frm≤beH l i)||(decide ((l.getD i default).frm<0)||(decide ((l.getD i default).to≤(l.getD i default).frm)||(decide ((x.col.length:Int)<(l.getD i default).to)|| !decide ((l.getD i default).rds=qcy x (l.getD i default).frm.toNat (l.getD i default).to.toNat))))):=rfl;have hbe:beH l i=if i=0 then-1 else (l.getD (i-1) default).to:=rfl
  have hcs: ∀k,cvN l (i+1) k=(cvN l i k||(decide ((l.getD i default).frm≤k)&&decide ((k:Int)<(l.getD i default).to))):=fun k=>qbE _ _
  have hrs:qhN (l.getD i default).rds:=⟨hu.rd i,hu.sr i,hu.wd i⟩
  have hS:unB x (beH l i) (l.getD i default)=true→ ∀j,j<i+1→unB x (beH l j) (l.getD j default)=true:=fun hx j hj=>by
   by_cases e:j=i
   ·subst e;exact hx
   ·exact i3 j om
  obtain⟨u,hux⟩: ∃u,u=l.getD i default:=⟨_,rfl⟩
  have eu:=hux.symm;simp only[eu]at hno hun hcs hrs hS
  by_cases a1:u.frm<0
  ·have q1:(u.frm<0)=True:=eqt a1;rw[hno (by rw[hun,dqt a1];simp)];simp (disch:=omega) only[coC,qz,unC,t0,t1,eu,i2',q1,go_sem]
   repeat' first
    |(refine qj ( .bool false) ?_;simp (disch:=omega) only[zl,go_sem])
    |(apply qa;exact rvk;simp only[go_sem];exact qi)
    |with_reducible first|intro _|apply aiA
   all_goals try exact clz
  have q1:(u.frm<0)=False:=eqf a1
  by_cases a2:u.to≤u.frm
  ·have q2:(u.to≤u.frm)=True:=eqt a2;rw[hno (by rw[hun,dqt a2];simp)];simp (disch:=omega) only[coC,qz,unC,t0,t1,eu,i2',q1,q2,go_sem]
   repeat' first
    |(refine qj ( .bool false) ?_;simp (disch:=omega) only[zl,go_sem])
    |(apply qa;exact rvk;simp only[go_sem];exact qi)
    |with_reducible first|intro _|apply aiA
   all_goals try exact clz
  have q2:(u.to≤u.frm)=False:=eqf a2
  by_cases a3:(x.col.length:Int)<u.to
  ·have q3:((x.col.length:Int)<u.to)=True:=eqt a3;rw[hno (by rw[hun,dqt a3];simp)];simp (disch:=omega) only[coC,qz,unC,t0,t1,eu,i2',q1,q2,q3,zl,zo,go_sem]
   repeat' first
    |(refine qj ( .bool false) ?_;simp (disch:=omega) only[go_sem])
    |(apply qa;exact rvk;simp only[go_sem];exact qi)
    |with_reducible first|intro _|apply aiA
   all_goals try exact clz
  have q3:((x.col.length:Int)<u.to)=False:=eqf a3;obtain⟨F,hF⟩: ∃F:Nat,u.frm=(F:Int):=⟨u.frm.toNat,om⟩
  obtain⟨G,hG⟩: ∃G:Nat,u.to=(G:Int):=⟨u.to.toNat,om⟩
  have c180:=fun h=>qzT x F G h ho om hcl
  have hsz:qhN (qcy x F G):=qkM x F (G-F) om x.sig.length (by have:=ho.sg;omega);have c179:=fun h=>qz2 u.rds (qcy x F G) h hrs hsz
  unfold coC at c180;rw[hF,hG,itn,itn]at hun;simp only[hF,hG]at q1 q2 q3 a1 a2 a3 hcs;have fin:unB x (beH l i) u=true→True:=fun _=>trivial
  have hlast: ∀(B:Bool),B=decide (u.rds=qcy x F G)→(¬(i≠0∧(F:Int)≤(l.getD (i-1) default).to))→unB x (beH l i) u=B:=fun B hB hg=>by
   have e1:decide ((F:Int)≤beH l i)=false:=dqf (by
    rw[hbe];split
    ·omega
    ·rename_i hx
     exact fun hc=>hg ⟨hx,hc⟩)
   rw[hun,e1,dqf a1,dqf a2,dqf a3,←hB];simp
  obtain⟨D,hD⟩: ∃D,D=qcy x F G:=⟨_,rfl⟩
  rw[←hD]at hlast;simp only[←hD]at c180 c179
  --behind the head of the condition:the rest
  by_cases a4:i≠0∧(F:Int)≤(l.getD (i-1) default).to
  ·obtain⟨b1,b2⟩:=a4;have hm:((i:Int)-1)=((i-1:Nat):Int):=by omega
   have m1:(((i-1:Nat):Int)<l.length)=True:=eqt om;have m0:(0≤((i-1:Nat):Int))=True:=eqt om;have t2:((0:Int)<i)=True:=eqt om;have hV:R=20:=hno (by
    rw[hun,hbe,ine b1,dqt b2]
    rfl)
   obtain⟨u0,hu0⟩: ∃u0,u0=l.getD (i-1) default:=⟨_,rfl⟩
   have eu0:=hu0.symm;rw[eu0]at b2;have q4:((F:Int)≤u0.to)=True:=eqt b2;rw[hV];simp (disch:=omega) only[coC,qz,unC,t0,t1,t2,hm,m0,m1,eu,eu0,i2',hF,hG,q1,q2,q3,q4,zl,zo,go_sem]
   repeat' first
    |(refine qj ( .bool false) ?_;simp (disch:=omega) only[go_sem])
    |(apply qa;exact rvk;simp only[go_sem];exact qi)
    |with_reducible apply aiA
   all_goals try exact clz
  have hlast:=fun B hB=>hlast B hB a4
  have hst: ∀(z:Bool),z=decide (u.rds=D)→(z=true→ ∀j,j<i+1→unB x (beH l j) (l.getD j default)=true)∧(z=false→R=20):=fun z hz=>⟨fun e=>hS (by rw[hlast z hz,e]),fun e=>hno (by rw[hlast z hz,e])⟩
  obtain⟨z,hzz⟩: ∃z,z=decide (u.rds=D):=⟨_,rfl⟩
  obtain⟨hst1,hst2⟩:=hst z hzz;simp only[←hzz]at c179;have inner:z=true→ ∀(K2:Prop) ,True:=fun _ _=>trivial
  by_cases b0:i=0
  ·have t2:((0:Int)<i)=False:=eqf om;cases z with
   |false=>
    rw[hst2 rfl];simp (disch:=omega) only[coC,qz,unC,t0,t1,t2,eu,i2',hF,hG,q1,q2,q3,zl,zo,go_sem]
    repeat' first
     |((first|refine cG (fun e=>c180 _) ?_ ?_|refine cG (fun e=>c179 _) ?_ ?_);exact flk;simp (disch:=omega) only[go_sem])
     |(apply qa;exact rvk;simp only[go_sem];exact qi)
     |with_reducible first|intro _|apply aiA
    all_goals try exact clz
   |true=>
   simp (disch:=omega) only[coC,qz,unC,t0,t1,t2,eu,i2',hF,hG,q1,q2,q3,zl,zo,go_sem]
   repeat' first
    |((first|refine cG (fun e=>c180 _) ?_ ?_|refine cG (fun e=>c179 _) ?_ ?_);exact flk;simp (disch:=omega) only[go_sem])
    |(apply qa;exact rvk;simp only[go_sem];apply qf)
    |with_reducible first|intro _|apply aiA
   all_goals try exact clz
   obtain⟨pf,hpf⟩: ∃pf:Nat→Nat→Bool,pf=fun m k=>cvN l i k||(decide (F≤k)&&decide (k<m)):=⟨_,rfl⟩
   have p1:bC (cvN l i) x.col.length=bC (pf F) x.col.length:=kZ fun k _=>by
    rw[hpf];dsimp only
    by_cases h1:F≤k
    ·rw[dqf (by omega: ¬k<F)];simp
    ·rw[dqf h1];simp
   rw[p1];refine qn (T:=fun m:Nat=>qM 105 [(1,qz l),(2,.op h.length 1 0),(5,.osl (h.length+1) 1 1 0 x.col.length),(6,.int .i64 i),(7,.op (h.length+2) (qr (some O)+1) 0),(8,.int .i64 m)])
    (H:=fun m=>h++ [.mem 1 26 (coC x),.mem 1 4 (bC (pf m) x.col.length),.mem (qr (some O)+1) 83 [.int .i64 (F:Int),.int .i64 (G:Int),zL u.rds]])
    (inv:=fun m=>F≤m∧m≤G) (m:=fun m=>G-m) F ⟨nlr _,om⟩ (Wk.temps ?_) ?_
   ·(simp only[qz,unC,go_sem,qh,qe,qb,qg];try (repeat' first|(with_reducible apply aiA)|(apply qf;omega)|(apply qd;rfl)|exact qi))
   rintro m ⟨m1',m2'⟩ K2 hK2
   by_cases hm':m<G
   ·have r1:((m:Int)<G)=True:=eqt om;have r0:(0≤(m:Int))=True:=eqt om;have r2:((m:Int)<x.col.length)=True:=eqt om;have mn:m<x.col.length:=by omega
    have r3:(m<x.col.length)=True:=eqt mn;have r4:(m+1≤x.col.length)=True:=eqt mn;have gl:=qak (pf m) x.col.length;have gs1:=qoO (p:=pf m) mn;have hpn:bC (fun k=>pf m k||decide (k=m)) x.col.length=bC (pf (m+1)) x.col.length:=kZ fun k _=>by
     rw[hpf];dsimp only
     by_cases h1:k=m
     ·subst h1;rw[dqt (by omega:F≤k),dqt (by omega:k<k+1)];simp
     ·rw[dqf h1,Bool.or_false]
      by_cases h2:k<m
      ·rw[dqt h2,dqt (by omega:k<m+1)]
      ·rw[dqf h2,dqf (by omega: ¬k<m+1)]
    simp (disch:=omega) only[coC,qz,unC,r0,r1,r2,r4,gl,gs1,Nat.mul_one,Nat.zero_add,itn,Option.isSome_some,go_sem]
    try rw[hpn]
    refine hK2 _ _ (m+1) ⟨om,hm'⟩ om (Wk.temps ?_)
    (simp only[qz,unC,go_sem,qh,qe,qb,qg];try (repeat' first|(with_reducible apply aiA)|(apply qf;omega)|(apply qd;rfl)|exact qi))
   obtain rfl:m=G:=by omega
   have r1:((m:Int)<m)=False:=eqf om;have p2:bC (pf m) x.col.length=bC (cvN l (i+1)) x.col.length:=kZ fun k _=>by
    rw[hcs,hpf];dsimp only;have e1:decide ((F:Int)≤(k:Int))=decide (F≤k):=decide_eq_decide.2 om;have e2:decide ((k:Int)<(m:Int))=decide (k<m):=decide_eq_decide.2 om;rw[e1,e2]
   rw[p2];simp (disch:=omega) only[r1,go_sem];refine hK _ _ (i+1,.mem (qr (some O)+1) 83 [.int .i64 (F:Int),.int .i64 (m:Int),zL u.rds]) ⟨hi,rfl,hst1 rfl⟩ (by simp only;omega) (Wk.temps ?_)
   (simp only[qz,unC,go_sem,qh,qe,qb,qg];try (repeat' first|(with_reducible apply aiA)|(apply qf;omega)|(apply qd;rfl)|exact qi))
  have t2:((0:Int)<i)=True:=eqt om;have hm:((i:Int)-1)=((i-1:Nat):Int):=by omega
  have m1:(((i-1:Nat):Int)<l.length)=True:=eqt om;have m0:(0≤((i-1:Nat):Int))=True:=eqt om;have b4: ¬(F:Int)≤(l.getD (i-1) default).to:=fun hc=>a4 ⟨b0,hc⟩
  obtain⟨u0,hu0⟩: ∃u0,u0=l.getD (i-1) default:=⟨_,rfl⟩
  have eu0:=hu0.symm;rw[eu0]at b4;have q4:((F:Int)≤u0.to)=False:=eqf b4;cases z with
  |false=>
   rw[hst2 rfl];simp (disch:=omega) only[coC,qz,unC,t0,t1,t2,eu,i2',hF,hG,q1,q2,q3,zl,zo,hm,m0,m1,eu0,q4,go_sem]
   repeat' first
    |((first|refine cG (fun e=>c180 _) ?_ ?_|refine cG (fun e=>c179 _) ?_ ?_);exact flk;simp (disch:=omega) only[go_sem])
    |(apply qa;exact rvk;simp only[go_sem];exact qi)
    |with_reducible apply aiA
   all_goals try exact clz
  |true=>
  simp (disch:=omega) only[coC,qz,unC,t0,t1,t2,eu,i2',hF,hG,q1,q2,q3,zl,zo,hm,m0,m1,eu0,q4,go_sem]
  repeat' first
   |((first|refine cG (fun e=>c180 _) ?_ ?_|refine cG (fun e=>c179 _) ?_ ?_);exact flk;simp (disch:=omega) only[go_sem])
   |with_reducible apply aiA
  all_goals try exact clz
  obtain⟨pf,hpf⟩: ∃pf:Nat→Nat→Bool,pf=fun m k=>cvN l i k||(decide (F≤k)&&decide (k<m)):=⟨_,rfl⟩
  have p1:bC (cvN l i) x.col.length=bC (pf F) x.col.length:=kZ fun k _=>by
   rw[hpf];dsimp only
   by_cases h1:F≤k
   ·rw[dqf (by omega: ¬k<F)];simp
   ·rw[dqf h1];simp
  rw[p1];refine qn (T:=fun m:Nat=>qM 105 [(1,qz l),(2,.op h.length 1 0),(5,.osl (h.length+1) 1 1 0 x.col.length),(6,.int .i64 i),(7,.op (h.length+2) (qr (some O)+1) 0),(8,.int .i64 m)])
   (H:=fun m=>h++ [.mem 1 26 (coC x),.mem 1 4 (bC (pf m) x.col.length),.mem (qr (some O)+1) 83 [.int .i64 (F:Int),.int .i64 (G:Int),zL u.rds]])
   (inv:=fun m=>F≤m∧m≤G) (m:=fun m=>G-m) F ⟨nlr _,om⟩ (Wk.temps ?_) ?_
  ·(simp only[qz,unC,go_sem,qh,qe,qb,qg];try (repeat' first|(with_reducible apply aiA)|(apply qf;omega)|(apply qd;rfl)|exact qi))
  rintro m ⟨m1',m2'⟩ K2 hK2
  by_cases hm':m<G
  ·have r1:((m:Int)<G)=True:=eqt om;have r0:(0≤(m:Int))=True:=eqt om;have r2:((m:Int)<x.col.length)=True:=eqt om;have mn:m<x.col.length:=by omega
   have r3:(m<x.col.length)=True:=eqt mn;have r4:(m+1≤x.col.length)=True:=eqt mn;have gl:=qak (pf m) x.col.length;have gs1:=qoO (p:=pf m) mn;have hpn:bC (fun k=>pf m k||decide (k=m)) x.col.length=bC (pf (m+1)) x.col.length:=kZ fun k _=>by
    rw[hpf];dsimp only
    by_cases h1:k=m
    ·subst h1;rw[dqt (by omega:F≤k),dqt (by omega:k<k+1)];simp
    ·rw[dqf h1,Bool.or_false]
     by_cases h2:k<m
     ·rw[dqt h2,dqt (by omega:k<m+1)]
     ·rw[dqf h2,dqf (by omega: ¬k<m+1)]
   simp (disch:=omega) only[coC,qz,unC,r0,r1,r2,r4,gl,gs1,Nat.mul_one,Nat.zero_add,itn,Option.isSome_some,go_sem]
   try rw[hpn]
   refine hK2 _ _ (m+1) ⟨om,hm'⟩ om (Wk.temps ?_)
   (simp only[qz,unC,go_sem,qh,qe,qb,qg];try (repeat' first|(with_reducible apply aiA)|(apply qf;omega)|(apply qd;rfl)|exact qi))
  obtain rfl:m=G:=by omega
  have r1:((m:Int)<m)=False:=eqf om;have p2:bC (pf m) x.col.length=bC (cvN l (i+1)) x.col.length:=kZ fun k _=>by
   rw[hcs,hpf];dsimp only;have e1:decide ((F:Int)≤(k:Int))=decide (F≤k):=decide_eq_decide.2 om;have e2:decide ((k:Int)<(m:Int))=decide (k<m):=decide_eq_decide.2 om;rw[e1,e2]
  rw[p2];simp (disch:=omega) only[r1,go_sem];refine hK _ _ (i+1,.mem (qr (some O)+1) 83 [.int .i64 (F:Int),.int .i64 (m:Int),zL u.rds]) ⟨hi,rfl,hst1 rfl⟩ (by simp only;omega) (Wk.temps ?_)
  (simp only[qz,unC,go_sem,qh,qe,qb,qg];try (repeat' first|(with_reducible apply aiA)|(apply qf;omega)|(apply qd;rfl)|exact qi))
 have t1:((i:Int)<l.length)=False:=eqf om;obtain rfl:i=l.length:=by omega
 rw[qk.2 fun j hj=>by rw[i3 j hj];rfl]at hR;clear hK;simp (disch:=omega) only[qz,t1,zl,zo,coC,go_sem];refine qn (T:=fun k:Nat=>qM 105 [(2,.op h.length 1 0),(5,.osl (h.length+1) 1 1 0 x.col.length),(9,.int .i64 k)])
  (H:=fun _=>h++ [.mem 1 26 (coC x),.mem 1 4 (bC (cvN l l.length) x.col.length),O])
  (inv:=fun k=>k≤x.col.length∧ ∀j,j<k→(!cvB l j&& !cmB x j)=false) (m:=fun k=>x.col.length-k) 0 ⟨nzl _,fun j hj=>absurd hj (nnz j)⟩ (Wk.temps ?_) ?_
 ·(simp only[go_sem,qh,qe,qb,qg];try (repeat' first|(with_reducible apply aiA)|(apply qf;omega)|(apply qd;rfl)|exact qi))
 rintro k ⟨k1',k2'⟩ K hK
 by_cases hk:k<x.col.length
 ·have t1:((k:Int)<x.col.length)=True:=eqt om;have t0:(0≤(k:Int))=True:=eqt om;have r3:(k<x.col.length)=True:=eqt hk;have r4:(k+1≤x.col.length)=True:=eqt hk;have gl:=qak (cvN l l.length) x.col.length;have gg:=qfq (p:=cvN l l.length) hk;rw[qqA]at gg;have c181:=fun h=>qzq x k h ho hk
  have hno:(!cvB l k&& !cmB x k)=true→R=20:=fun hx=>by
   rw[hR,qv.2 ⟨k,hk,hx⟩];rfl
  have hS:(!cvB l k&& !cmB x k)=false→ ∀j,j<k+1→(!cvB l j&& !cmB x j)=false:=fun hx j hj=>by
   by_cases e:j=k
   ·subst e;exact hx
   ·exact k2' j om
  obtain⟨A,hA⟩: ∃A,A=cvB l k:=⟨_,rfl⟩
  obtain⟨B,hB⟩: ∃B,B=cmB x k:=⟨_,rfl⟩
  rw[←hA,←hB]at hno hS;rw[←hA]at gg;simp only[←hB]at c181;obtain⟨c,hcx⟩: ∃c,c=x.col.getD k []:=⟨_,rfl⟩
  have ec:=hcx.symm;simp only[ec]at c181;unfold coC at c181;have zc:qp x.col= .sl x.col.length fun i=> [qq (x.col.getD i [])]:=rfl
  cases A with
  |true=>
   simp (disch:=omega) only[coC,zc,t0,t1,r3,gl,gg,ec,Nat.mul_one,Nat.zero_add,itn,Option.isSome_some,Option.getD_some,go_sem]
   repeat' first
    |(refine qj ( .bool false) ?_;simp (disch:=omega) only[go_sem])
    |with_reducible apply aiA
   all_goals try exact clz
   refine hK _ _ (k+1) ⟨hk,hS rfl⟩ om (Wk.temps ?_)
   (simp only[go_sem,qh,qe,qb,qg];try (repeat' first|(with_reducible apply aiA)|(apply qf;omega)|(apply qd;rfl)|exact qi))
  |false=>
   cases B with
   |true=>
    simp (disch:=omega) only[coC,zc,t0,t1,r3,gl,gg,ec,Nat.mul_one,Nat.zero_add,itn,Option.isSome_some,Option.getD_some,go_sem]
    repeat' first
     |(refine cG (fun e=>c181 _) flk ?_;simp (disch:=omega) only[go_sem])
     |with_reducible apply aiA
    all_goals try exact clz
    refine hK _ _ (k+1) ⟨hk,hS rfl⟩ om (Wk.temps ?_)
    (simp only[go_sem,qh,qe,qb,qg];try (repeat' first|(with_reducible apply aiA)|(apply qf;omega)|(apply qd;rfl)|exact qi))
   |false=>
    rw[hno rfl];simp (disch:=omega) only[coC,zc,t0,t1,r3,gl,gg,ec,Nat.mul_one,Nat.zero_add,itn,Option.isSome_some,Option.getD_some,go_sem]
    repeat' first
     |(refine cG (fun e=>c181 _) flk ?_;simp (disch:=omega) only[go_sem])
     |(apply qa;exact rvk;simp only[go_sem];exact qi)
     |with_reducible apply aiA
    all_goals try exact clz
 have t1:((k:Int)<x.col.length)=False:=eqf om;have hV:R=0:=by
  rw[hR,qk.2 fun j hj=>k2' j om];rfl
 rw[hV];simp (disch:=omega) only[t1,zl,zo,coC,go_sem]
 repeat' first
  |(apply qa;exact rvk;simp only[go_sem];exact qi)
  |with_reducible apply aiA
 all_goals try exact clz
end RC
end
