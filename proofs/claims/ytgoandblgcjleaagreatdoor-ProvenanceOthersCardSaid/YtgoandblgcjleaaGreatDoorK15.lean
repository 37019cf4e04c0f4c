import Derived.Test.YtgoandblgcjleaaGreatDoorK14
import Derived.Test.YtgoandblgcjleaaGreatDoorK12
import Derived.Test.YtgoandblgcjleaaGreatDoorK3
import Derived.Test.YtgoandblgcjleaaGreatDoorK4
import Derived.Test.YtgoandblgcjleaaGreatDoorK8
import Derived.Test.YtgoandblgcjleaaGreatDoorProg
import Derived.Test.YtgoandblgcjleaaGreatDoorK11
import Derived.Test.YtgoandblgcjleaaGreatDoorK13
import Derived.Shelf.Slices.In.SortNone
import Derived.Test.YtgoandblgcjleaaGreatDoorK9
import Derived.Lib.ItoaLen
set_option linter.all false
set_option linter.unusedSimpArgs false
set_option linter.unusedVariables false
set_option linter.unusedSectionVars false
set_option maxHeartbeats 256000000
set_option maxRecDepth 100000
section
open Go Go.Proofs AF HY LN
namespace RC
theorem qoG{x:Co}{l:List Un}{w b:Wd}{f:Bool}(h:w.text= []∨64<w.text.length):wdE x l w b f=11:=ipo h
theorem ql3{x:Co}{l:List Un}{w b:Wd}{f:Bool}(h1: ¬(w.text= []∨64<w.text.length))(h:w.col<0∨(x.col.length:Int)≤w.col∨(f=false∧w.col<b.col)):wdE x l w b f=19:=by
 unfold wdE;rw[ine h1,ipo h]
theorem qwE{x:Co}{l:List Un}{w b:Wd}{f:Bool}(h1: ¬(w.text= []∨64<w.text.length))(h2: ¬(w.col<0∨(x.col.length:Int)≤w.col∨(f=false∧w.col<b.col)))(h:fnU l w.col≠w.unit):wdE x l w b f=20:=by
 unfold wdE;rw[ine h1,ine h2,ipo h];split<;>rfl
theorem qhL{x:Co}{l:List Un}{w b:Wd}{f:Bool}(h1: ¬(w.text= []∨64<w.text.length))(h2: ¬(w.col<0∨(x.col.length:Int)≤w.col∨(f=false∧w.col<b.col)))(h3:fnU l w.col=w.unit)
  (h:w.dec< -1∨(0≤w.dec∧w.unit<0)∨(f=false∧0≤w.unit∧w.unit=b.unit∧w.dec≠b.dec)):wdE x l w b f=2:=by
 have:=qcS l w.col
 unfold wdE;rw[ine h1,ine h2,ine om,ine (fun hc=>hc h3),ipo];rcases h with h|h|h
 ·exact .inl h
 ·exact .inr (.inl ⟨h.2,om⟩)
 ·exact .inr (.inr h)
theorem qeh{x:Co}{l:List Un}{w b:Wd}{f:Bool}(h1: ¬(w.text= []∨64<w.text.length))(h2: ¬(w.col<0∨(x.col.length:Int)≤w.col∨(f=false∧w.col<b.col)))(h3:fnU l w.col=w.unit)
  (h: ¬(w.dec< -1∨(0≤w.dec∧w.unit<0)∨(f=false∧0≤w.unit∧w.unit=b.unit∧w.dec≠b.dec))):wdE x l w b f=0:=by
 have:=qcS l w.col
 unfold wdE;rw[ine h1,ine h2,ine om,ine (fun hc=>hc h3),ine];rintro (g|g|g)
 ·exact h (.inl g)
 ·exact h (.inr (.inl ⟨om,g.1⟩))
 ·exact h (.inr (.inr g))
theorem qye(x:Co)(l:List Un)(b:List Wd)(h:List AObj)(hz:qen x)(hu:qeo l)(hb:b.length≤1000000000)(ht: ∀i,(b.getD i default).text.length≤1000000000)(hp:ky SG h):
  ACalls Tryz.prog 39 [.agg (coC x),qz l,qZ b] h (.int .i64 (pvE x l b)) h:=by
 have c1:=fun l'=>qyq x l (h++l') hz hu (hp.app l')
 obtain⟨R,hR⟩: ∃R,R=pvE x l b:=⟨_,rfl⟩
 rw[←hR];unfold pvE at hR
 by_cases g:vaE x l=0
 case neg=>
  have k1:(vaE x l=0)=False:=eqf g;rw[ipo g]at hR;rw[hR];obtain⟨e,he⟩: ∃e,e=vaE x l:=⟨_,rfl⟩
  rw[←he]at c1 k1 ⊢;unfold coC at c1;refine acO qvb ?_;simp (disch:=omega) only[qxi,coC,go_sem]
  repeat' first
   |(refine cA (c1 _) flk ?_;simp (disch:=omega) only[k1,go_sem])
   |(apply qa;exact rvk;simp only[go_sem];exact qi)
 rw[ine (fun hc=>hc g)]at hR;rw[g]at c1;unfold coC at c1;have hv:coE x=0∧qlD x l=true∧cvA x l=true:=by
  unfold vaE at g;split at g
  ·cases g
  rename_i g1;split at g
  ·cases g
  rename_i g2;have g2:rgB x l=true:=by simpa using g2
  unfold rgB at g2;rw[Bool.and_eq_true]at g2;exact⟨Classical.not_not.1 g1,g2⟩
 have ho:=qco hv.1;have hcl:=hz.cl;have zl: ∀g,valL g .len [qp x.col]= .int .i64 x.col.length:=fun _=>rfl
 have zo: ∀g,okL g .len [qp x.col]=True:=fun _=>eqt trivial
 have zw:qZ b= .sl b.length fun i=>wdC (b.getD i default):=rfl
 refine acO qvb ?_;simp (disch:=omega) only[qxi,coC,zw,go_sem]
 repeat' first
  |(refine cA (c1 _) flk ?_;simp (disch:=omega) only[go_sem])
 obtain⟨wa,hwa⟩: ∃f:Nat→Int,f=ql2 x l b:=⟨_,rfl⟩
 rw[←hwa]at hR;have hwd: ∀i,wa i=wdE x l (b.getD i default) (qfu b i) (decide (i=0)):=fun i=>by rw[hwa];rfl
 refine qn (T:=fun i:Nat×AObj=>qM 175 [(1,qz l),(2,qZ b),(3,.op h.length 1 0),(8,.int .i64 i.1)])
  (H:=fun i=>h++ [.mem 1 26 (coC x),i.2])
  (inv:=fun i=>i.1≤b.length∧qP [i.2] 0=true∧ ∀j,j<i.1→wa j=0) (m:=fun i=>b.length-i.1) (0,.emp 0) ⟨nzl _,rfl,fun j hj=>absurd hj (nnz j)⟩ (Wk.temps ?_) ?_
 ·(simp only[zw,qz,go_sem,qh,qe,qb,qg];try (repeat' first|(with_reducible apply aiA)|(apply qf;omega)|(apply qd;rfl)|exact qi))
 rintro⟨i,O⟩ ⟨i1,i2,i3⟩ K hK;simp only at i1 i2 i3 hK;have i2': ∀m,qP (O::m) 0=true:=fun _=>i2
 by_cases hi:i<b.length
 ·have t1:((i:Int)<b.length)=True:=eqt om;have t0:(0≤(i:Int))=True:=eqt om;have hE:=jB (f:=wa) hi i3;have hS:wa i=0→ ∀j,j<i+1→wa j=0:=fun hx j hj=>by
   by_cases e:j=i
   ·subst e;exact hx
   ·exact i3 j om
  have hbad: ∀e:Int,e≠0→wa i=e→R=e:=fun e he hx=>by
   rw[hR,ipo (by rw[hE (by rw[hx];exact he),hx];exact he),hE (by rw[hx];exact he),hx]
  have hw:=hwd i;obtain⟨w,hwx⟩: ∃w,w=b.getD i default:=⟨_,rfl⟩
  have ew:=hwx.symm;rw[ew]at hw;have c3:=fun h=>qy2 l w.col h hu.n
  have eF:0≤w.col→fnR l w.col=fnU l w.col:=fun hc=>ine om
  have eE:0≤w.col→fnE w.col=0:=fun hc=>ine om
  have hrg:=qcS l w.col;obtain⟨p,hpx⟩: ∃p,p=fnU l w.col:=⟨_,rfl⟩
  have ep:=hpx.symm
  by_cases b0:i=0
  case pos=>
   have t2:((0:Int)<i)=False:=eqf om;rw[dqt b0]at hw
   by_cases a1:w.text= []
   ·have p1:(w.text= [])=True:=eqt a1;rw[hbad 11 (by decide) (by rw[hw];exact qoG (.inl a1))];simp (disch:=omega) only[coC,zw,wdC,t0,t1,ew,i2',zl,zo,t2,p1,go_sem]
    repeat' first
     |(apply qa;exact rvk;simp only[go_sem];exact qi)
   have p1:(w.text= [])=False:=eqf a1
   by_cases a2:64<w.text.length
   ·have p2:((64:Int)<w.text.length)=True:=eqt om;rw[hbad 11 (by decide) (by rw[hw];exact qoG (.inr a2))];simp (disch:=omega) only[coC,zw,wdC,t0,t1,ew,i2',zl,zo,t2,p1,p2,go_sem]
    repeat' first
     |(apply qa;exact rvk;simp only[go_sem];exact qi)
   have p2:((64:Int)<w.text.length)=False:=eqf om;have n1: ¬(w.text= []∨64<w.text.length):=fun hc=>hc.elim a1 a2
   by_cases a3:w.col<0
   ·have p3:(w.col<0)=True:=eqt a3;rw[hbad 19 (by decide) (by rw[hw];exact ql3 n1 (.inl a3))];simp (disch:=omega) only[coC,zw,wdC,t0,t1,ew,i2',zl,zo,t2,p1,p2,p3,go_sem]
    repeat' first
     |(apply qa;exact rvk;simp only[go_sem];exact qi)
   have p3:(w.col<0)=False:=eqf a3
   by_cases a4:(x.col.length:Int)≤w.col
   ·have p4:((x.col.length:Int)≤w.col)=True:=eqt a4;rw[hbad 19 (by decide) (by rw[hw];exact ql3 n1 (.inr (.inl a4)))];simp (disch:=omega) only[coC,zw,wdC,t0,t1,ew,i2',zl,zo,t2,p1,p2,p3,p4,go_sem]
    repeat' first
     |(apply qa;exact rvk;simp only[go_sem];exact qi)
     |with_reducible apply aiA
    all_goals try exact clz
   have p4:((x.col.length:Int)≤w.col)=False:=eqf a4;have n2: ¬(w.col<0∨(x.col.length:Int)≤w.col∨(true=false∧w.col<(qfu b i).col)):=by simp only[Bool.true_eq_false,false_and,or_false];omega
   have eF:=eF om;have eE:=eE om;rw[ep]at eF;simp only[eF,eE]at c3
   by_cases a6:w.unit=p
   case neg=>
    have p6:(w.unit=p)=False:=eqf a6;rw[hbad 20 (by decide) (by rw[hw];exact qwE n1 n2 (by rw[ep];omega))];simp (disch:=omega) only[coC,zw,wdC,t0,t1,ew,i2',zl,zo,t2,p1,p2,p3,p4,go_sem]
    repeat' first
     |(refine cA (c3 _) flk ?_;simp (disch:=omega) only[t2,p6,go_sem])
     |(apply qa;exact rvk;simp only[go_sem];first|exact qi|apply qf)
     |with_reducible first|intro _|apply aiA
    all_goals try exact clz
   have p6:(w.unit=p)=True:=eqt a6;have n3:fnU l w.col=w.unit:=by rw[ep];exact a6.symm
   by_cases a7:w.dec< -1
   ·have p7:(w.dec< -1)=True:=eqt a7;rw[hbad 2 (by decide) (by rw[hw];exact qhL n1 n2 n3 (.inl a7))];simp (disch:=omega) only[coC,zw,wdC,t0,t1,ew,i2',zl,zo,t2,p1,p2,p3,p4,go_sem]
    repeat' first
     |(refine cA (c3 _) flk ?_;simp (disch:=omega) only[t2,p6,p7,go_sem])
     |(apply qa;exact rvk;simp only[go_sem];first|exact qi|apply qf)
     |with_reducible first|intro _|apply aiA
    all_goals try exact clz
   have p7:(w.dec< -1)=False:=eqf a7
   by_cases a8:0≤w.dec
   ·have p8:(0≤w.dec)=True:=eqt a8;have p8':(w.dec<0)=False:=eqf om
    by_cases a9:w.unit<0
    ·have p9:(w.unit<0)=True:=eqt a9;rw[hbad 2 (by decide) (by rw[hw];exact qhL n1 n2 n3 (.inr (.inl ⟨a8,a9⟩)))];simp (disch:=omega) only[coC,zw,wdC,t0,t1,ew,i2',zl,zo,t2,p1,p2,p3,p4,go_sem]
     repeat' first
      |(refine cA (c3 _) flk ?_;simp (disch:=omega) only[t2,p6,p7,p8,p9,go_sem])
      |(apply qa;exact rvk;simp only[go_sem];first|exact qi|apply qf)
      |with_reducible first|intro _|apply aiA
     all_goals try exact clz
    have p9:(w.unit<0)=False:=eqf a9;have p9':(0≤w.unit)=True:=eqt om;have hok:wa i=0:=by rw[hw];exact qeh n1 n2 n3 (by simp only[Bool.true_eq_false,false_and,or_false];omega)
    simp (disch:=omega) only[coC,zw,wdC,t0,t1,ew,i2',zl,zo,t2,p1,p2,p3,p4,go_sem]
    repeat' first
     |(refine cA (c3 _) flk ?_;simp (disch:=omega) only[t2,p6,p7,p8,p9,p9',go_sem])
     |(apply qa;exact rvk;simp only[go_sem];apply qf)
     |with_reducible first|intro _|apply aiA
    all_goals try exact clz
    refine hK _ _ (i+1,.mem (qr (some O)+1) 64 (wdC w)) ⟨hi,rfl,hS hok⟩ (by simp only;omega) ?_;simp only[wdC];refine Wk.temps ?_
    (simp only[zw,qz,go_sem,qh,qe,qb,qg];try (repeat' first|(with_reducible apply aiA)|(apply qf;omega)|(apply qd;rfl)|exact qi))
   have p8:(0≤w.dec)=False:=eqf a8;have p8':(w.dec<0)=True:=eqt om
   by_cases a9:w.unit<0
   ·have p9:(w.unit<0)=True:=eqt a9;have p9':(0≤w.unit)=False:=eqf om;have hok:wa i=0:=by rw[hw];exact qeh n1 n2 n3 (by simp only[Bool.true_eq_false,false_and,or_false];omega)
    simp (disch:=omega) only[coC,zw,wdC,t0,t1,ew,i2',zl,zo,t2,p1,p2,p3,p4,go_sem]
    repeat' first
     |(refine cA (c3 _) flk ?_;simp (disch:=omega) only[t2,p6,p7,p8,p9,p9',go_sem])
     |(apply qa;exact rvk;simp only[go_sem];apply qf)
     |with_reducible first|intro _|apply aiA
    all_goals try exact clz
    refine hK _ _ (i+1,.mem (qr (some O)+1) 64 (wdC w)) ⟨hi,rfl,hS hok⟩ (by simp only;omega) ?_;simp only[wdC];refine Wk.temps ?_
    (simp only[zw,qz,go_sem,qh,qe,qb,qg];try (repeat' first|(with_reducible apply aiA)|(apply qf;omega)|(apply qd;rfl)|exact qi))
   have p9:(w.unit<0)=False:=eqf a9;have p9':(0≤w.unit)=True:=eqt om;have hok:wa i=0:=by rw[hw];exact qeh n1 n2 n3 (by simp only[Bool.true_eq_false,false_and,or_false];omega)
   simp (disch:=omega) only[coC,zw,wdC,t0,t1,ew,i2',zl,zo,t2,p1,p2,p3,p4,go_sem]
   repeat' first
    |(refine cA (c3 _) flk ?_;simp (disch:=omega) only[t2,p6,p7,p8,p9,p9',go_sem])
    |(apply qa;exact rvk;simp only[go_sem];apply qf)
    |with_reducible first|intro _|apply aiA
   all_goals try exact clz
   refine hK _ _ (i+1,.mem (qr (some O)+1) 64 (wdC w)) ⟨hi,rfl,hS hok⟩ (by simp only;omega) ?_;simp only[wdC];refine Wk.temps ?_
   (simp only[zw,qz,go_sem,qh,qe,qb,qg];try (repeat' first|(with_reducible apply aiA)|(apply qf;omega)|(apply qd;rfl)|exact qi))
  have t2:((0:Int)<i)=True:=eqt om;have hm:((i:Int)-1)=((i-1:Nat):Int):=by omega
  have m1:(((i-1:Nat):Int)<b.length)=True:=eqt om;have m0:(0≤((i-1:Nat):Int))=True:=eqt om;have hb1:qfu b i=b.getD (i-1) default:=ine b0;rw[hb1,dqf b0]at hw;obtain⟨w0,hw0⟩: ∃w0,w0=b.getD (i-1) default:=⟨_,rfl⟩
  have ew0:=hw0.symm;rw[ew0]at hw
  by_cases a1:w.text= []
  ·have p1:(w.text= [])=True:=eqt a1;rw[hbad 11 (by decide) (by rw[hw];exact qoG (.inl a1))];simp (disch:=omega) only[coC,zw,wdC,t0,t1,ew,i2',zl,zo,t2,hm,m0,m1,ew0,p1,go_sem]
   repeat' first
    |(apply qa;exact rvk;simp only[go_sem];exact qi)
  have p1:(w.text= [])=False:=eqf a1
  by_cases a2:64<w.text.length
  ·have p2:((64:Int)<w.text.length)=True:=eqt om;rw[hbad 11 (by decide) (by rw[hw];exact qoG (.inr a2))];simp (disch:=omega) only[coC,zw,wdC,t0,t1,ew,i2',zl,zo,t2,hm,m0,m1,ew0,p1,p2,go_sem]
   repeat' first
    |(apply qa;exact rvk;simp only[go_sem];exact qi)
  have p2:((64:Int)<w.text.length)=False:=eqf om;have n1: ¬(w.text= []∨64<w.text.length):=fun hc=>hc.elim a1 a2
  by_cases a3:w.col<0
  ·have p3:(w.col<0)=True:=eqt a3;rw[hbad 19 (by decide) (by rw[hw];exact ql3 n1 (.inl a3))];simp (disch:=omega) only[coC,zw,wdC,t0,t1,ew,i2',zl,zo,t2,hm,m0,m1,ew0,p1,p2,p3,go_sem]
   repeat' first
    |(apply qa;exact rvk;simp only[go_sem];exact qi)
  have p3:(w.col<0)=False:=eqf a3
  by_cases a4:(x.col.length:Int)≤w.col
  ·have p4:((x.col.length:Int)≤w.col)=True:=eqt a4;rw[hbad 19 (by decide) (by rw[hw];exact ql3 n1 (.inr (.inl a4)))];simp (disch:=omega) only[coC,zw,wdC,t0,t1,ew,i2',zl,zo,t2,hm,m0,m1,ew0,p1,p2,p3,p4,go_sem]
   repeat' first
    |(apply qa;exact rvk;simp only[go_sem];exact qi)
    |with_reducible apply aiA
   all_goals try exact clz
  have p4:((x.col.length:Int)≤w.col)=False:=eqf a4
  by_cases a5:w.col<w0.col
  ·have p5:(w.col<w0.col)=True:=eqt a5;rw[hbad 19 (by decide) (by rw[hw];exact ql3 n1 (.inr (.inr ⟨rfl,a5⟩)))];simp (disch:=omega) only[coC,zw,wdC,t0,t1,ew,i2',zl,zo,t2,hm,m0,m1,ew0,p1,p2,p3,p4,p5,go_sem]
   repeat' first
    |(apply qa;exact rvk;simp only[go_sem];exact qi)
    |with_reducible apply aiA
   all_goals try exact clz
  have p5:(w.col<w0.col)=False:=eqf a5;have n2: ¬(w.col<0∨(x.col.length:Int)≤w.col∨(false=false∧w.col<w0.col)):=by omega
  have eF:=eF om;have eE:=eE om;rw[ep]at eF;simp only[eF,eE]at c3
  by_cases a6:w.unit=p
  case neg=>
   have p6:(w.unit=p)=False:=eqf a6;rw[hbad 20 (by decide) (by rw[hw];exact qwE n1 n2 (by rw[ep];omega))];simp (disch:=omega) only[coC,zw,wdC,t0,t1,ew,i2',zl,zo,t2,hm,m0,m1,ew0,p1,p2,p3,p4,p5,go_sem]
   repeat' first
    |(refine cA (c3 _) flk ?_;simp (disch:=omega) only[t2,hm,m0,m1,ew0,p6,go_sem])
    |(apply qa;exact rvk;simp only[go_sem];exact qi)
    |with_reducible apply aiA
   all_goals try exact clz
  have p6:(w.unit=p)=True:=eqt a6;have n3:fnU l w.col=w.unit:=by rw[ep];exact a6.symm
  by_cases a7:w.dec< -1
  ·have p7:(w.dec< -1)=True:=eqt a7;rw[hbad 2 (by decide) (by rw[hw];exact qhL n1 n2 n3 (.inl a7))];simp (disch:=omega) only[coC,zw,wdC,t0,t1,ew,i2',zl,zo,t2,hm,m0,m1,ew0,p1,p2,p3,p4,p5,go_sem]
   repeat' first
    |(refine cA (c3 _) flk ?_;simp (disch:=omega) only[t2,hm,m0,m1,ew0,p6,p7,go_sem])
    |(apply qa;exact rvk;simp only[go_sem];exact qi)
    |with_reducible apply aiA
   all_goals try exact clz
  have p7:(w.dec< -1)=False:=eqf a7
  by_cases a8:0≤w.dec
  ·have p8:(0≤w.dec)=True:=eqt a8;have p8':(w.dec<0)=False:=eqf om
   by_cases a9:w.unit<0
   ·have p9:(w.unit<0)=True:=eqt a9;rw[hbad 2 (by decide) (by rw[hw];exact qhL n1 n2 n3 (.inr (.inl ⟨a8,a9⟩)))];simp (disch:=omega) only[coC,zw,wdC,t0,t1,ew,i2',zl,zo,t2,hm,m0,m1,ew0,p1,p2,p3,p4,p5,go_sem]
    repeat' first
     |(refine cA (c3 _) flk ?_;simp (disch:=omega) only[t2,hm,m0,m1,ew0,p6,p7,p8,p9,go_sem])
     |(apply qa;exact rvk;simp only[go_sem];exact qi)
     |with_reducible apply aiA
    all_goals try exact clz
   have p9:(w.unit<0)=False:=eqf a9;have p9':(0≤w.unit)=True:=eqt om
   by_cases a10:w0.unit=w.unit
   case neg=>
    have p10:(w0.unit=w.unit)=False:=eqf a10;have p10':(w0.unit=p)=False:=eqf om;have hok:wa i=0:=by rw[hw];exact qeh n1 n2 n3 om
    simp (disch:=omega) only[coC,zw,wdC,t0,t1,ew,i2',zl,zo,t2,hm,m0,m1,ew0,p1,p2,p3,p4,p5,go_sem]
    repeat' first
     |(refine cA (c3 _) flk ?_;simp (disch:=omega) only[t2,hm,m0,m1,ew0,p6,p7,p8,p9,p9',p10,go_sem])
     |(apply qa;exact rvk;simp only[go_sem];apply qf)
     |with_reducible first|intro _|apply aiA
    all_goals try exact clz
    refine hK _ _ (i+1,.mem (qr (some O)+1) 64 (wdC w)) ⟨hi,rfl,hS hok⟩ (by simp only;omega) ?_;simp only[wdC];refine Wk.temps ?_
    (simp only[zw,qz,go_sem,qh,qe,qb,qg];try (repeat' first|(with_reducible apply aiA)|(apply qf;omega)|(apply qd;rfl)|exact qi))
   have p10:(w0.unit=w.unit)=True:=eqt a10;have p10':(w0.unit=p)=True:=eqt om
   by_cases a11:w0.dec=w.dec
   ·have p11:(w0.dec=w.dec)=True:=eqt a11;have hok:wa i=0:=by rw[hw];exact qeh n1 n2 n3 om
    simp (disch:=omega) only[coC,zw,wdC,t0,t1,ew,i2',zl,zo,t2,hm,m0,m1,ew0,p1,p2,p3,p4,p5,go_sem]
    repeat' first
     |(refine cA (c3 _) flk ?_;simp (disch:=omega) only[t2,hm,m0,m1,ew0,p6,p7,p8,p9,p9',p10,p11,go_sem])
     |with_reducible apply aiA
    all_goals try exact clz
    refine hK _ _ (i+1,.mem (qr (some O)+1) 64 (wdC w)) ⟨hi,rfl,hS hok⟩ (by simp only;omega) ?_;simp only[wdC];refine Wk.temps ?_
    (simp only[zw,qz,go_sem,qh,qe,qb,qg];try (repeat' first|(with_reducible apply aiA)|(apply qf;omega)|(apply qd;rfl)|exact qi))
   have p11:(w0.dec=w.dec)=False:=eqf a11;rw[hbad 2 (by decide) (by rw[hw];exact qhL n1 n2 n3 (.inr (.inr ⟨rfl,om,om,om⟩)))];simp (disch:=omega) only[coC,zw,wdC,t0,t1,ew,i2',zl,zo,t2,hm,m0,m1,ew0,p1,p2,p3,p4,p5,go_sem]
   repeat' first
    |(refine cA (c3 _) flk ?_;simp (disch:=omega) only[t2,hm,m0,m1,ew0,p6,p7,p8,p9,p9',p10,p11,go_sem])
    |(apply qa;exact rvk;simp only[go_sem];exact qi)
    |with_reducible apply aiA
   all_goals try exact clz
  have p8:(0≤w.dec)=False:=eqf a8;have p8':(w.dec<0)=True:=eqt om
  by_cases a9:w.unit<0
  ·have p9:(w.unit<0)=True:=eqt a9;have p9':(0≤w.unit)=False:=eqf om;have hok:wa i=0:=by rw[hw];exact qeh n1 n2 n3 om
   simp (disch:=omega) only[coC,zw,wdC,t0,t1,ew,i2',zl,zo,t2,hm,m0,m1,ew0,p1,p2,p3,p4,p5,go_sem]
   repeat' first
    |(refine cA (c3 _) flk ?_;simp (disch:=omega) only[t2,hm,m0,m1,ew0,p6,p7,p8,p9,p9',go_sem])
    |(apply qa;exact rvk;simp only[go_sem];apply qf)
    |with_reducible first|intro _|apply aiA
   all_goals try exact clz
   refine hK _ _ (i+1,.mem (qr (some O)+1) 64 (wdC w)) ⟨hi,rfl,hS hok⟩ (by simp only;omega) ?_;simp only[wdC];refine Wk.temps ?_
   (simp only[zw,qz,go_sem,qh,qe,qb,qg];try (repeat' first|(with_reducible apply aiA)|(apply qf;omega)|(apply qd;rfl)|exact qi))
  have p9:(w.unit<0)=False:=eqf a9;have p9':(0≤w.unit)=True:=eqt om
  by_cases a10:w0.unit=w.unit
  case neg=>
   have p10:(w0.unit=w.unit)=False:=eqf a10;have p10':(w0.unit=p)=False:=eqf om;have hok:wa i=0:=by rw[hw];exact qeh n1 n2 n3 om
   simp (disch:=omega) only[coC,zw,wdC,t0,t1,ew,i2',zl,zo,t2,hm,m0,m1,ew0,p1,p2,p3,p4,p5,go_sem]
   repeat' first
    |(refine cA (c3 _) flk ?_;simp (disch:=omega) only[t2,hm,m0,m1,ew0,p6,p7,p8,p9,p9',p10,go_sem])
    |(apply qa;exact rvk;simp only[go_sem];apply qf)
    |with_reducible first|intro _|apply aiA
   all_goals try exact clz
   refine hK _ _ (i+1,.mem (qr (some O)+1) 64 (wdC w)) ⟨hi,rfl,hS hok⟩ (by simp only;omega) ?_;simp only[wdC];refine Wk.temps ?_
   (simp only[zw,qz,go_sem,qh,qe,qb,qg];try (repeat' first|(with_reducible apply aiA)|(apply qf;omega)|(apply qd;rfl)|exact qi))
  have p10:(w0.unit=w.unit)=True:=eqt a10;have p10':(w0.unit=p)=True:=eqt om
  by_cases a11:w0.dec=w.dec
  ·have p11:(w0.dec=w.dec)=True:=eqt a11;have hok:wa i=0:=by rw[hw];exact qeh n1 n2 n3 om
   simp (disch:=omega) only[coC,zw,wdC,t0,t1,ew,i2',zl,zo,t2,hm,m0,m1,ew0,p1,p2,p3,p4,p5,go_sem]
   repeat' first
    |(refine cA (c3 _) flk ?_;simp (disch:=omega) only[t2,hm,m0,m1,ew0,p6,p7,p8,p9,p9',p10,p11,go_sem])
    |with_reducible apply aiA
   all_goals try exact clz
   refine hK _ _ (i+1,.mem (qr (some O)+1) 64 (wdC w)) ⟨hi,rfl,hS hok⟩ (by simp only;omega) ?_;simp only[wdC];refine Wk.temps ?_
   (simp only[zw,qz,go_sem,qh,qe,qb,qg];try (repeat' first|(with_reducible apply aiA)|(apply qf;omega)|(apply qd;rfl)|exact qi))
  have p11:(w0.dec=w.dec)=False:=eqf a11;rw[hbad 2 (by decide) (by rw[hw];exact qhL n1 n2 n3 (.inr (.inr ⟨rfl,om,om,om⟩)))];simp (disch:=omega) only[coC,zw,wdC,t0,t1,ew,i2',zl,zo,t2,hm,m0,m1,ew0,p1,p2,p3,p4,p5,go_sem]
  repeat' first
   |(refine cA (c3 _) flk ?_;simp (disch:=omega) only[t2,hm,m0,m1,ew0,p6,p7,p8,p9,p9',p10,p11,go_sem])
   |(apply qa;exact rvk;simp only[go_sem];exact qi)
   |with_reducible apply aiA
  all_goals try exact clz
 have t1:((i:Int)<b.length)=False:=eqf om;obtain rfl:i=b.length:=by omega
 have hn0:=zI (f:=wa) (fun j (hj:j<b.length)=>i3 j hj);rw[ine (fun hc=>hc hn0)]at hR;clear hK;simp (disch:=omega) only[coC,zw,t1,i2',go_sem];obtain⟨cb,hcb⟩: ∃f:Nat→Int,f=qw8 x l b:=⟨_,rfl⟩
 rw[←hcb]at hR;have hto:0<x.tok.length:=by have:=ho.tn;have:=ho.sg;omega
 refine qn (T:=fun k:Nat=>qM 175 [(1,qz l),(2,qZ b),(3,.op h.length 1 0),(12,.int .i64 k)])
  (H:=fun _=>h++ [.mem 1 26 (coC x),O])
  (inv:=fun k=>k≤x.col.length∧ ∀j,j<k→cb j=0) (m:=fun k=>x.col.length-k) 0 ⟨nzl _,fun j hj=>absurd hj (nnz j)⟩ (Wk.temps ?_) ?_
 ·(simp only[zw,qz,go_sem,qh,qe,qb,qg];try (repeat' first|(with_reducible apply aiA)|(apply qf;omega)|(apply qd;rfl)|exact qi))
 rintro k ⟨k1,k2⟩ K hK
 by_cases hk:k<x.col.length
 ·have t1:((k:Int)<x.col.length)=True:=eqt om;have t0:(0≤(k:Int))=True:=eqt om;have hE:=jB (f:=cb) hk k2;have hS:cb k=0→ ∀j,j<k+1→cb j=0:=fun hx j hj=>by
   by_cases e:j=k
   ·subst e;exact hx
   ·exact k2 j om
  have hci:cb k=if 0≤fnU l (k:Int) then 0 else if ccB x b k=true then 0 else 9:=by rw[hcb];rfl
  have hcc:=qtV x b k;have hto2:= @qkq x l ho hv.2.2 k hk;have eF:fnR l (k:Int)=fnU l (k:Int):=ine om;have eE:fnE (k:Int)=0:=ine om;have c3:=fun h=>qy2 l (k:Int) h hu.n
  simp only[eF,eE]at c3;have htx:txA x k=((x.tok.getD 0 []).getD ((x.col.getD k []).getD 0 0).toNat default).text:=rfl;have hcl0:=ho.cl k hk;obtain⟨c,hcx⟩: ∃c,c=x.col.getD k []:=⟨_,rfl⟩
  have ec:=hcx.symm;rw[ec]at hto2 htx hcl0;obtain⟨t,htt⟩: ∃t,t=c.getD 0 0:=⟨_,rfl⟩
  have et:=htt.symm;rw[et]at hto2 htx;obtain⟨tk,htk⟩: ∃tk,tk=x.tok.getD 0 []:=⟨_,rfl⟩
  have etk:=htk.symm;rw[etk]at hto2 htx;obtain⟨p,hpx⟩: ∃p,p=fnU l (k:Int):=⟨_,rfl⟩
  rw[←hpx]at hci hto2;simp only[←hpx]at c3
  by_cases g1:0≤p
  ·have q4:(0≤p)=True:=eqt g1;rw[ipo g1]at hci;simp (disch:=omega) only[coC,t1,zl,zo,go_sem]
   repeat' first
    |(refine cA (c3 _) flk ?_;simp (disch:=omega) only[q4,go_sem])
    |with_reducible apply aiA
   all_goals try exact clz
   refine hK _ _ (k+1) ⟨hk,hS hci⟩ om (Wk.temps ?_)
   (simp only[zw,qz,go_sem,qh,qe,qb,qg];try (repeat' first|(with_reducible apply aiA)|(apply qf;omega)|(apply qd;rfl)|exact qi))
  have q4:(0≤p)=False:=eqf g1;rw[ine g1]at hci;obtain⟨o1,o2⟩:=hto2 om;have q5:(0≤t)=True:=eqt o1;have q6:(t<tk.length)=True:=eqt o2;have q7:((0:Int)<c.length)=True:=eqt (by have:=ho.sg;omega);have q8:((0:Int)<x.tok.length)=True:=eqt om;have z0:Int.toNat 0=0:=rfl;obtain⟨tt,htt2⟩: ∃tt,tt=tk.getD t.toNat default:=⟨_,rfl⟩
  have ett:=htt2.symm;rw[ett]at htx;rw[htx]at hcc;simp (disch:=omega) only[coC,t1,zl,zo,go_sem]
  repeat' first
   |(refine cA (c3 _) flk ?_;simp (disch:=omega) only[q4,go_sem])
   |with_reducible apply aiA
  all_goals try exact clz
  refine qn (T:=fun i:Nat=>qM 175 [(1,qz l),(2,qZ b),(3,.op h.length 1 0),(12,.int .i64 k),(15,.int .i64 (cW b (k:Int) i:Int)),(16,.int .i64 i)])
   (H:=fun _=>h++ [.mem 1 26 (coC x),O])
   (inv:=fun i=>i≤b.length∧ ∀j,j<i→(decide ((b.getD j default).col=(k:Int))&& !decide ((b.getD j default).text=tt.text))=false) (m:=fun i=>b.length-i) 0 ⟨nzl _,fun j hj=>absurd hj (nnz j)⟩ (Wk.temps ?_) ?_
  ·(simp only[zw,qz,cW,go_sem,qh,qe,qb,qg];try (repeat' first|(with_reducible apply aiA)|(apply qf;omega)|(apply qd;rfl)|exact qi))
  rintro i ⟨m1,m2⟩ K2 hK2
  by_cases hi:i<b.length
  ·have r1:((i:Int)<b.length)=True:=eqt om;have r0:(0≤(i:Int))=True:=eqt om;have hle:=qtP b (k:Int) i;have hcs:cW b (k:Int) (i+1)=cW b (k:Int) i+if (b.getD i default).col=(k:Int) then 1 else 0:=rfl
   have hS2:(decide ((b.getD i default).col=(k:Int))&& !decide ((b.getD i default).text=tt.text))=false→ ∀j,j<i+1→(decide ((b.getD j default).col=(k:Int))&& !decide ((b.getD j default).text=tt.text))=false:=fun hx j hj=>by
    by_cases e:j=i
    ·subst e;exact hx
    ·exact m2 j om
   have hno:(decide ((b.getD i default).col=(k:Int))&& !decide ((b.getD i default).text=tt.text))=true→R=9:=fun hx=>by
    have h9:cb k=9:=by
     rw[hci,ine];rw[hcc,qv.2 ⟨i,hi,hx⟩];simp
    rw[hR,hE (by rw[h9];decide),h9]
   obtain⟨w,hwx⟩: ∃w,w=b.getD i default:=⟨_,rfl⟩
   have ew:=hwx.symm;rw[ew]at hcs hS2 hno;obtain⟨N,hN⟩: ∃N,N=cW b (k:Int) i:=⟨_,rfl⟩
   rw[←hN]at hle hcs ⊢
   by_cases a1:w.col=(k:Int)
   case neg=>
    have p1:(w.col=(k:Int))=False:=eqf a1;rw[ine a1]at hcs;simp (disch:=omega) only[coC,zw,wdC,r0,r1,ew,p1,go_sem];refine hK2 _ _ (i+1) ⟨hi,hS2 (by rw[dqf a1];rfl)⟩ om (Wk.temps ?_);rw[hcs]
    (simp only[zw,qz,go_sem,qh,qe,qb,qg];try (repeat' first|(with_reducible apply aiA)|(apply qf;omega)|(apply qd;rfl)|exact qi))
   have p1:(w.col=(k:Int))=True:=eqt a1;rw[ipo a1]at hcs
   by_cases a2:w.text=tt.text
   ·have p2:(w.text=tt.text)=True:=eqt a2;simp (disch:=omega) only[coC,qp,qq,qm,zM,tkC,zw,wdC,r0,r1,t0,t1,ew,p1,p2,ec,et,etk,ett,q5,q6,q7,q8,z0,go_sem]
    repeat' first
     |with_reducible apply aiA
    all_goals try exact clz
    refine hK2 _ _ (i+1) ⟨hi,hS2 (by rw[dqt a2];simp)⟩ om (Wk.temps ?_);rw[hcs]
    (simp only[zw,qz,go_sem,qh,qe,qb,qg];try (repeat' first|(with_reducible apply aiA)|(apply qf;omega)|(apply qd;rfl)|exact qi))
   ·have p2:(w.text=tt.text)=False:=eqf a2;rw[hno (by rw[dqt a1,dqf a2];rfl)];simp (disch:=omega) only[coC,qp,qq,qm,zM,tkC,zw,wdC,r0,r1,t0,t1,ew,p1,p2,ec,et,etk,ett,q5,q6,q7,q8,z0,go_sem]
    repeat' first
     |(apply qa;exact rvk;simp only[go_sem];exact qi)
     |with_reducible apply aiA
    all_goals try exact clz
  have r1:((i:Int)<b.length)=False:=eqf om;obtain rfl:i=b.length:=by omega
  rw[qk.2 fun j hj=>m2 j om,Bool.not_false,Bool.and_true]at hcc;obtain⟨N,hN⟩: ∃N,N=cW b (k:Int) b.length:=⟨_,rfl⟩
  rw[←hN]at hcc ⊢
  by_cases a1:N=1
  ·have p1:((N:Int)=1)=True:=eqt om;rw[dqt a1]at hcc;rw[ipo hcc]at hci;simp (disch:=omega) only[zw,r1,p1,go_sem];refine hK _ _ (k+1) ⟨hk,hS hci⟩ om (Wk.temps ?_)
   (simp only[zw,qz,go_sem,qh,qe,qb,qg];try (repeat' first|(with_reducible apply aiA)|(apply qf;omega)|(apply qd;rfl)|exact qi))
  ·have p1:((N:Int)=1)=False:=eqf om;rw[dqf a1]at hcc;rw[ine (by rw[hcc];simp)]at hci;have hV:R=9:=by rw[hR,hE (by rw[hci];decide),hci]
   rw[hV];simp (disch:=omega) only[zw,r1,p1,go_sem]
   repeat' first
    |(apply qa;exact rvk;simp only[go_sem];exact qi)
 have t1:((k:Int)<x.col.length)=False:=eqf om;rw[zI (fun j (hj:j<x.col.length)=>k2 j om)]at hR;rw[hR];simp (disch:=omega) only[coC,t1,zl,zo,go_sem]
 repeat' first
  |(apply qa;exact rvk;simp only[go_sem];exact qi)
  |with_reducible apply aiA
 all_goals try exact clz
end RC
end
section
open Go Go.Proofs AF
def qrf:List Nat:= []
def qpZ:C:=
 ((C.ops [ON 2 (.nilo 0 1 3) []]).seq (((C.ops [MV 3 0,O1 4 (.isnil .slice false) 3]).seq (C.cond (.t 4) ((C.ops [ON 2 (.nilo 0 1 3) []]).seq C.ret) C.skip)).seq ((C.ops [⟨some 5,
 none,.bslc 1 1 0 3 [i6 0] [],[]⟩,MV 6 0,O2 7 (.app 2 1 3 8) 5 6,MV 2 7]).seq
 C.ret)))
theorem qo3:qI Tryz.prog 156 8 3 [RV.tmp 2] qpZ:=fi Tryz.f156 [2,5,7] qrf []
end
section
open Go Go.Proofs AF HY LN
namespace RC
def hsK(l:List Un)(b:List Wd)(k:Nat):List Int:=if 0≤brK l b k then ((l.getD k default).rds.getD (brK l b k).toNat default).src else []
def qep(n:Nat):List Int:=(List.range n).map (fun i:Nat=>(i:Int))
def soK(x:Co)(l:List Un)(b:List Wd)(i:Nat):List Int:=if (b.getD i default).unit<0 then qep x.sig.length else hsK l b (b.getD i default).unit.toNat
theorem qdn(n:Nat):qep (n+1)=qep n++ [(n:Int)]:=by unfold qep;rw[List.range_succ,List.map_append];rfl
theorem qbv(n:Nat):(qep n).length=n:=by simp[qep]
theorem qev(l:List Un)(b:List Wd)(k:Nat):brK l b k<(l.getD k default).rds.length:=by
 unfold brK;rcases zY (fun r=>decide (((l.getD k default).rds.getD r default).words=owG b (k:Int) b.length)) (l.getD k default).rds.length with⟨i,h1,_,_,h4⟩|⟨_,h2⟩
 ·rw[h4];omega
 ·rw[h2];omega
theorem qra{l:List Un}{b:List Wd}{k:Nat}(hu:qeo l):(hsK l b k).length≤1000000000:=by
 unfold hsK;split
 ·exact hu.sr _ _
 ·exact nzl _
theorem qdc(h:List AObj)(L:List Int):qo h (qq L)=some (L.length,qW L):=by
 show some (L.length,_)=_;rw[fmI]
theorem qgN{L:List Int}(h:L≠ []):valP (.isnil .slice false) [qq L]= .bool false:=by
 unfold qq;rw[qaO,ine (by simpa using h)];rfl
theorem qxr(h:List AObj):ACalls Tryz.prog 156 [qq []] h (qq []) h:=by
 have s1:=fun h=>qdc h []
 have z0:valP (.isnil .slice false) [qq []]= .anyb:=rfl;have z1:okP (.isnil .slice false) [qq []]=True:=eqt trivial;have e0:qW []= []:=rfl;refine acO qo3 ?_;simp (disch:=omega) only[qpZ,s1,z0,z1,e0,go_sem]
 repeat' first
  |(apply qa;exact rvk;simp only[go_sem])
  |with_reducible apply aiA
 all_goals try exact clz
 ·exact qck
 ·rfl
 ·exact VLe.sl_eq rfl (fun i hi=>absurd hi (by simp))
theorem qzp(L:List Int)(h:List AObj)(k:Nat)(hk:qP h k=true)(h0:L≠ [])(hl:L.length≤1000000000):
  ACalls Tryz.prog 156 [qq L] h (.osl k (qr (getO k h)+1) 1 0 L.length) (setO k h (.mem (qr (getO k h)+1) 3 (qW L))):=by
 have s1:=fun h=>qdc h L
 have eP:=zx L;have hp:=List.length_pos_iff.2 h0;have z0:=qgN h0;have z1:okP (.isnil .slice false) [qq L]=True:=eqt trivial;refine qpF qo3 k (by simp) ?_;simp only[lco,lnl,Nat.reduceAdd,Nat.reduceSub,List.replicate,lca,lna];simp (disch:=omega) only[qpZ,s1,z0,z1,go_sem]
 repeat' first
  |(with_reducible apply aiA)
 all_goals first
  |omega
  |contradiction
  |skip
 ·rfl
 exact⟨h.length+1,2,1,0,L.length,3,qW L,_,⟨trivial,trivial⟩,rfl,rfl,om,by simp only[go_sem],qjY L _,hk,rfl,rfl⟩
theorem qpy(x:Co)(l:List Un)(b:List Wd)(i:Nat)(h:List AObj)(hu:qeo l)(hb:b.length≤1000000)(hi:i<b.length)(hn:x.sig.length≤1000000)(hul:(b.getD i default).unit<(l.length:Int)):
  ACalls Tryz.prog 84 [.agg (coC x),qz l,qZ b,.int .i64 (i:Int)] h (qq (soK x l b i)) h:=by
 have zb:qZ b= .sl b.length fun i=>wdC (b.getD i default):=rfl
 have zu:qz l= .sl l.length fun i=>unC (l.getD i default):=rfl
 have zs1: ∀g,valL g .len [strs x.sig]= .int .i64 x.sig.length:=fun _=>rfl
 have zs2: ∀g,okL g .len [strs x.sig]=True:=fun _=>eqt trivial
 have k5:(0≤(i:Int))=True:=eqt om;have k6:((i:Int)<b.length)=True:=eqt om;unfold soK;obtain⟨w,hw⟩: ∃w,w=b.getD i default:=⟨_,rfl⟩
 have ew:=hw.symm;rw[ew]at hul ⊢
 by_cases g1:w.unit<0
 ·have k1:(w.unit<0)=True:=eqt g1;rw[ipo g1];refine acO qm7 ?_;simp (disch:=omega) only[qtO,coC,zb,wdC,k1,k5,k6,ew,zs1,zs2,go_sem];refine qn (T:=fun s:Nat×Nat×AObj=>qM 48 [(10,.osl (h.length+2) s.2.1 1 0 s.1),(22,.int .i64 x.sig.length),(23,.int .i64 s.1)])
   (H:=fun s=>h++ [.mem 1 26 [.str x.sec,strs x.sig,qm x.tok,qp x.col],.emp 1,kx s.2.1 3 (qW (qep s.1)),s.2.2,.emp 0])
   (inv:=fun s=>s.1≤x.sig.length∧qP [s.2.2] 0=true) (m:=fun s=>x.sig.length-s.1) (0,1,.emp 0) ⟨nzl _,rfl⟩ (Wk.temps ?_) ?_
  ·(simp only[go_sem,qh,qe,qb,qg];try (repeat' first|(with_reducible apply aiA)|(apply qf;omega)|(apply qd;rfl)|exact qi))
  rintro⟨j,v,O⟩ ⟨j1,j2⟩ K hK;simp only at j1 j2 hK;have j2': ∀m,qP (O::m) 0=true:=fun _=>j2
  have hst:=qdn j;have hln:=qbv j;obtain⟨M,hM⟩: ∃M,M=qep j:=⟨_,rfl⟩
  rw[←hM]at hst hln ⊢;have eC:=zx M;rw[hln]at eC;have eT:List.take j (qW M)=qW M:=ltl om
  by_cases hj:j<x.sig.length
  ·have r1:((j:Int)<x.sig.length)=True:=eqt om;simp (disch:=omega) only[r1,j2',eC,eT,Nat.mul_one,go_sem]
   repeat' first
    |with_reducible apply aiA
   all_goals try exact clz
   have eA:qW M++ [AV.int .i64 (j:Int)]=qW (qep (j+1)):=by rw[hst,qaB];rfl
   have eD:(AV.int .i64 (j:Int)::List.drop 1 (qQ [AV.int .i64 0] 1))= [AV.int .i64 (j:Int)]:=rfl
   try rw[eD]
   try rw[eA]
   refine hK _ _ (j+1,v+1,.mem (qr (some O)+1) 3 [.int .i64 (j:Int)]) ⟨hj,rfl⟩ (by simp only;omega) (Wk.temps ?_)
   (simp only[go_sem,qh,qe,qb,qg];try (repeat' first|(with_reducible apply aiA)|(apply qf;omega)|(apply qd;rfl)|exact qi))
  ·obtain rfl:j=x.sig.length:=by omega
   have r1:((x.sig.length:Int)<x.sig.length)=False:=eqf om;rw[hM];simp (disch:=omega) only[r1,go_sem]
   repeat' first
    |(apply qa;exact rvk;simp only[go_sem])
   exact qod (fun _=>rfl) (qbv _).symm
 have k1:(w.unit<0)=False:=eqf g1;rw[ine g1];obtain⟨k,hk⟩: ∃k:Nat,w.unit=(k:Int):=⟨w.unit.toNat,om⟩
 rw[hk]at hul k1;rw[hk,itn];have c107:=fun h=>qvV l b k h hu hb om
 have hlt:=qev l b k;have hsl:=qra (b:=b) (k:=k) hu;have hd:hsK l b k=if 0≤brK l b k then ((l.getD k default).rds.getD (brK l b k).toNat default).src else []:=rfl
 have q1:(0≤(k:Int))=True:=eqt om;have q2:((k:Int)<l.length)=True:=eqt om;obtain⟨r,hr⟩: ∃r,r=brK l b k:=⟨_,rfl⟩
 rw[←hr]at hd hlt;simp only[←hr]at c107
 by_cases g2:0≤r
 case neg=>
  have k2:(0≤r)=False:=eqf g2;rw[ine g2]at hd;rw[hd];refine acO qm7 ?_;simp (disch:=omega) only[qtO,coC,zb,wdC,k1,k5,k6,ew,hk,go_sem]
  repeat' first
   |(refine cA (c107 _) flk ?_;simp (disch:=omega) only[k2,go_sem])
   |(apply qa;exact rvk;simp only[go_sem])
  exact qck
 have k2:(0≤r)=True:=eqt g2;rw[ipo g2]at hd;obtain⟨u,hux⟩: ∃u,u=l.getD k default:=⟨_,rfl⟩
 have eu:=hux.symm;rw[eu]at hd hlt;have q3:(r<u.rds.length)=True:=eqt hlt;obtain⟨S,hS⟩: ∃S,S=hsK l b k:=⟨_,rfl⟩
 rw[←hS]at hd hsl ⊢;have eS:=hd.symm;have zr:zL u.rds= .sl u.rds.length fun i=>rdC (u.rds.getD i default):=rfl
 by_cases g3:S= []
 ·subst g3;have c156:=fun h=>qxr h
  refine acO qm7 ?_;simp (disch:=omega) only[qtO,coC,zb,wdC,k1,k5,k6,ew,hk,go_sem]
  repeat' first
   |(refine cA (c107 _) flk ?_;simp (disch:=omega) only[zu,unC,zr,rdC,k2,q1,q2,q3,eu,eS,go_sem])
   |with_reducible apply aiA
  all_goals try exact clz
  refine zp (c156 _) (by exact flk) ?_;simp (disch:=omega) only[go_sem]
  repeat' first
   |(apply qa;exact rvk;simp only[go_sem];exact qi)
 refine acO qm7 ?_;simp (disch:=omega) only[qtO,coC,zb,wdC,k1,k5,k6,ew,hk,go_sem]
 repeat' first
  |(refine cA (c107 _) flk ?_;simp (disch:=omega) only[zu,unC,zr,rdC,k2,q1,q2,q3,eu,eS,go_sem])
  |with_reducible apply aiA
 all_goals try exact clz
 refine zp (qzp S _ (h.length+2) (by simp only[go_sem]) g3 hsl) (by exact flk) ?_;simp (disch:=omega) only[go_sem]
 repeat' first
  |(apply qa;exact rvk;simp only[go_sem])
 rw[ipo (by rw[zx];exact nlr _)];exact qaC _ (fun _=>rfl) rfl
theorem qvw(l:List Un)(b:List Wd)(k:Nat)(h:List AObj)(hu:qeo l)(hb:b.length≤1000000)(hk:k<l.length):ACalls Tryz.prog 110 [qz l,qZ b,.int .i64 (k:Int)] h (qq (hsK l b k)) h:=by
 have c176:=fun h=>qyh b (k:Int) h hb
 have hol:=qkr b (k:Int) b.length;have hd:hsK l b k=if 0≤brK l b k then ((l.getD k default).rds.getD (brK l b k).toNat default).src else []:=rfl
 have hbr:brK l b k=qbQ (fun r=>decide (((l.getD k default).rds.getD r default).words=owG b (k:Int) b.length)) (l.getD k default).rds.length 0:=rfl;obtain⟨W,hW⟩: ∃W,W=owG b (k:Int) b.length:=⟨_,rfl⟩
 rw[←hW]at hol;simp only[←hW]at c176 hbr;have zu:qz l= .sl l.length fun i=>unC (l.getD i default):=rfl
 have k1:((k:Int)<l.length)=True:=eqt om;have k0:(0≤(k:Int))=True:=eqt om;have zrl:=hu.rd k;have zwd:=hu.wd k;have zsr:=hu.sr k;obtain⟨u,hux⟩: ∃u,u=l.getD k default:=⟨_,rfl⟩
 have eu:=hux.symm;rw[eu]at hd hbr zrl;simp only[eu]at zwd zsr;have zr:zL u.rds= .sl u.rds.length fun i=>rdC (u.rds.getD i default):=rfl
 refine acO qun ?_;simp (disch:=omega) only[qs5,go_sem]
 repeat' first
  |(refine cA (c176 _) flk ?_;simp (disch:=omega) only[go_sem])
 refine qn (T:=fun r:Nat=>qM 45 [(0,qz l),(2,.int .i64 k),(7,strs W),(8,.int .i64 r)]) (H:=fun _=>h++ [.emp 1,.emp 0,.emp 0,.emp 0]) (inv:=fun r=>r≤u.rds.length∧ ∀j,j<r→(u.rds.getD j default).words≠W) (m:=fun r=>u.rds.length-r) 0 ⟨nzl _,fun j hj=>absurd hj (nnz j)⟩ (Wk.temps ?_) ?_
 ·(simp only[go_sem,qh,qe,qb,qg];try (repeat' first|(with_reducible apply aiA)|(apply qf;omega)|(apply qd;rfl)|exact qi))
 rintro r ⟨r1,r2⟩ K hK
 by_cases hr:r<u.rds.length
 ·have t1:((r:Int)<u.rds.length)=True:=eqt om;have t0:(0≤(r:Int))=True:=eqt om;have c103:=fun h=>qym (u.rds.getD r default).words W h (zwd r) om
  have hhit:(u.rds.getD r default).words=W→hsK l b k=(u.rds.getD r default).src:=fun e=>by
   have e1:brK l b k=r:=by rw[hbr];exact kl hr (fun j hj=>dqf (r2 j hj)) (dqt e)
   rw[hd,e1,ipo om,itn]
  have hsl:=zsr r;obtain⟨x,hx⟩: ∃x,x=u.rds.getD r default:=⟨_,rfl⟩
  have ex:=hx.symm;rw[ex]at hhit hsl;simp only[ex]at c103;have s1:=fun h=>qdc h x.src
  have eI:=zx x.src
  by_cases g:x.words=W
  ·rw[dqt g]at c103;rw[hhit g];simp (disch:=omega) only[zu,unC,zr,rdC,k0,k1,t0,t1,eu,ex,go_sem]
   repeat' first
    |(refine cA (c103 _) flk ?_;simp (disch:=omega) only[zr,rdC,k0,k1,t0,t1,eu,ex,s1,eI,go_sem])
    |(apply qa;exact rvk;simp only[go_sem])
    |with_reducible apply aiA
   all_goals try exact clz
   ·rfl
   rw[ipo (by rw[zx];exact nlr _)];exact qaC _ (fun _=>rfl) rfl
  ·rw[dqf g]at c103;simp (disch:=omega) only[zu,unC,zr,rdC,k0,k1,t0,t1,eu,ex,go_sem]
   repeat' first
    |(refine cA (c103 _) flk ?_;simp (disch:=omega) only[zr,rdC,k0,k1,t0,t1,eu,ex,go_sem])
    |with_reducible apply aiA
   all_goals try exact clz
   refine hK _ _ (r+1) ⟨hr,fun j hj=> ?_⟩ om (Wk.temps ?_)
   ·by_cases e:j=r
    ·subst e;rw[ex];exact g
    ·exact r2 j om
   ·(simp only[go_sem,qh,qe,qb,qg];try (repeat' first|(with_reducible apply aiA)|(apply qf;omega)|(apply qd;rfl)|exact qi))
 ·have t1:((r:Int)<u.rds.length)=False:=eqf om;have hn:hsK l b k= []:=by
   rw[hd,ine];rcases zY (fun r=>decide ((u.rds.getD r default).words=W)) u.rds.length with⟨i,h1,h2,_,_⟩|⟨_,h2⟩
   ·exact absurd (of_decide_eq_true h2) (r2 i om)
   ·rw[hbr,h2];decide
  rw[hn];simp (disch:=omega) only[zu,unC,zr,k0,k1,t1,eu,go_sem]
  repeat' first
   |(apply qa;exact rvk;simp only[go_sem])
   |with_reducible apply aiA
  all_goals try exact clz
  rw[ipo (nzl _)];exact VLe.sl_eq rfl (fun i hi=>absurd hi (nnz _))
def soE(x:Co)(l:List Un)(b:List Wd)(i:Int):Int:=if pvE x l b≠0 then pvE x l b else if i<0∨(b.length:Int)≤i then 2 else 0
def soL(x:Co)(l:List Un)(b:List Wd)(i:Int):List Int:=if soE x l b i=0 then soK x l b i.toNat else []
theorem qc2{x:Co}{l:List Un}{b:List Wd}(h:pvE x l b=0){i:Nat}(hi:i<b.length): -1≤(b.getD i default).unit∧(b.getD i default).unit<(l.length:Int):=by
 have hu:=(qfQ h).un2 i hi
 have:=qcS l (b.getD i default).col
 omega
theorem qr6(x:Co)(l:List Un)(b:List Wd)(i:Int)(h:List AObj)(hz:qen x)(hu:qeo l)(hb:b.length≤1000000)(ht: ∀i,(b.getD i default).text.length≤1000000000)(hn:x.sig.length≤1000000)(hp:ky SG h):
  ACalls Tryz.prog 32 [.agg (coC x),qz l,qZ b,.int .i64 i] h (.tup [qq (soL x l b i),.int .i64 (soE x l b i)]) h:=by
 have c38:=fun l'=>pvP x l b (h++l') hz hu om ht (hp.app l')
 have z1: ∀g,valL g .len [qZ b]= .int .i64 b.length:=fun _=>rfl
 have z2: ∀g,okL g .len [qZ b]=True:=fun _=>eqt trivial
 have nl0:VLe AV.nl (qq []):=qck;obtain⟨E,hE⟩: ∃E,E=soE x l b i:=⟨_,rfl⟩
 have hL:soL x l b i=if E=0 then soK x l b i.toNat else []:=by rw[hE];rfl
 rw[hL,←hE];unfold soE at hE;unfold coC at c38
 by_cases g1:pvE x l b=0
 case neg=>
  rw[ipo g1]at hE;rw[hE,ine g1];have k1:(pvE x l b=0)=False:=eqf g1;refine acO qm6 ?_;simp (disch:=omega) only[qtN,coC,go_sem]
  repeat' first
   |(refine cA (c38 _) flk ?_;simp (disch:=omega) only[k1,go_sem])
   |(apply qa;exact rvk;simp only[go_sem])
  exact ju ⟨nl0,qi,trivial⟩
 rw[ine (fun hc=>hc g1)]at hE;simp only[g1]at c38
 by_cases g2:i<0
 ·have k2:(i<0)=True:=eqt g2;rw[ipo (.inl g2)]at hE;rw[hE,ine (by decide)];refine acO qm6 ?_;simp (disch:=omega) only[qtN,coC,go_sem]
  repeat' first
   |(refine cA (c38 _) flk ?_;simp (disch:=omega) only[z1,z2,k2,go_sem])
   |(apply qa;exact rvk;simp only[go_sem])
  exact ju ⟨nl0,qi,trivial⟩
 have k2:(i<0)=False:=eqf g2
 by_cases g3:(b.length:Int)≤i
 ·have k3:((b.length:Int)≤i)=True:=eqt g3;rw[ipo (.inr g3)]at hE;rw[hE,ine (by decide)];refine acO qm6 ?_;simp (disch:=omega) only[qtN,coC,go_sem]
  repeat' first
   |(refine cA (c38 _) flk ?_;simp (disch:=omega) only[z1,z2,k2,k3,go_sem])
   |(apply qa;exact rvk;simp only[go_sem])
  exact ju ⟨nl0,qi,trivial⟩
 have k3:((b.length:Int)≤i)=False:=eqf g3;rw[ine (fun hc=>hc.elim g2 g3)]at hE;rw[hE,ipo rfl];obtain⟨j,rfl⟩: ∃j:Nat,i=(j:Int):=⟨i.toNat,om⟩
 rw[itn];have c84:=fun h=>qpy x l b j h hu hb om hn (qc2 g1 om).2
 unfold coC at c84;refine acO qm6 ?_;simp (disch:=omega) only[qtN,coC,go_sem]
 repeat' first
  |((first|refine cA (c38 _) ?_ ?_|refine cA (c84 _) ?_ ?_);exact flk;simp (disch:=omega) only[z1,z2,k2,k3,go_sem])
  |(apply qa;exact rvk;simp only[go_sem];exact qi)
theorem qwh(x:Co)(l:List Un)(b:List Wd)(i:Nat)(h:List AObj)(hu:qeo l)(hb:b.length≤1000000)(hi:i<b.length)(hn:x.sig.length≤1000000)(hul:(b.getD i default).unit<(l.length:Int)):
  ACalls Tryz.prog 88 [.agg (coC x),qz l,qZ b,.int .i64 (i:Int)] h (qq (soK x l b i)) h:=by
 have zb:qZ b= .sl b.length fun i=>wdC (b.getD i default):=rfl
 have zs1: ∀g,valL g .len [strs x.sig]= .int .i64 x.sig.length:=fun _=>rfl
 have zs2: ∀g,okL g .len [strs x.sig]=True:=fun _=>eqt trivial
 have k5:(0≤(i:Int))=True:=eqt om;have k6:((i:Int)<b.length)=True:=eqt om;unfold soK;obtain⟨w,hw⟩: ∃w,w=b.getD i default:=⟨_,rfl⟩
 have ew:=hw.symm;rw[ew]at hul ⊢
 by_cases g1:w.unit<0
 ·have k1:(0≤w.unit)=False:=eqf om;rw[ipo g1];refine acO qvf ?_;simp (disch:=omega) only[qxl,coC,zb,wdC,k1,k5,k6,ew,go_sem];have eM2:qQ [AV.int .i64 0] 0=qW (qep 0):=rfl;rw[eM2];refine qn (T:=fun s:Nat×Nat×AObj=>qM 38 [(4,.op h.length 1 0),(9,.osl (h.length+2) s.2.1 1 0 (qep s.1).length),(10,.int .i64 s.1)])
   (H:=fun s=>h++ [.mem 1 26 [.str x.sec,strs x.sig,qm x.tok,qp x.col],.emp 1,.mem s.2.1 3 (qW (qep s.1)),s.2.2,.emp 0])
   (inv:=fun s=>s.1≤x.sig.length∧qP [s.2.2] 0=true) (m:=fun s=>x.sig.length-s.1) (0,1,.emp 0) ⟨nzl _,rfl⟩ (Wk.temps ?_) ?_
  ·(simp only[qep,List.range_zero,List.map_nil,lnl,go_sem,qh,qe,qb,qg];try (repeat' first|(with_reducible apply aiA)|(apply qf;omega)|(apply qd;rfl)|exact qi))
  rintro⟨j,v,O⟩ ⟨j1,j2⟩ K hK;simp only at j1 j2 hK;have j2': ∀m,qP (O::m) 0=true:=fun _=>j2
  have hst:=qdn j;have hln:=qbv j;obtain⟨M,hM⟩: ∃M,M=qep j:=⟨_,rfl⟩
  have eM:=hM.symm;rw[eM]at hst hln;have eC:=zx M;have eT:List.take M.length (qW M)=qW M:=ltl om
  by_cases hj:j<x.sig.length
  ·have r1:((j:Int)<x.sig.length)=True:=eqt om;simp (disch:=omega) only[r1,eM,j2',eC,eT,Nat.mul_one,zs1,zs2,go_sem]
   repeat' first
    |with_reducible apply aiA
   all_goals try exact clz
   have eA:qW M++ [AV.int .i64 (j:Int)]=qW (M++ [(j:Int)]):=by rw[qaB];rfl
   have eD:(AV.int .i64 (j:Int)::List.drop 1 (qQ [AV.int .i64 0] 1))= [AV.int .i64 (j:Int)]:=rfl
   try rw[eD]
   rw[eA,←hst];refine hK _ _ (j+1,v+1,.mem (qr (some O)+1) 3 [.int .i64 (j:Int)]) ⟨hj,rfl⟩ (by simp only;omega) ?_;simp only[hst,lap,lco,lnl];refine Wk.temps ?_
   (simp only[go_sem,qh,qe,qb,qg];try (repeat' first|(with_reducible apply aiA)|(apply qf;omega)|(apply qd;rfl)|exact qi))
  ·obtain rfl:j=x.sig.length:=by omega
   have r1:((x.sig.length:Int)<x.sig.length)=False:=eqf om;simp only[eM];simp (disch:=omega) only[r1,zs1,zs2,go_sem]
   repeat' first
    |(apply qa;exact rvk;simp only[go_sem])
   rw[ipo om];exact qaC _ (fun _=>rfl) rfl
 rw[ine g1];have k1:(0≤w.unit)=True:=eqt om;obtain⟨k,hk⟩: ∃k:Nat,w.unit=(k:Int):=⟨w.unit.toNat,om⟩
 rw[hk]at hul k1;rw[hk,itn];have c110:=fun h=>qvw l b k h hu hb om
 refine acO qvf ?_;simp (disch:=omega) only[qxl,coC,zb,wdC,k1,k5,k6,ew,hk,go_sem]
 repeat' first
  |(refine cA (c110 _) flk ?_;simp (disch:=omega) only[go_sem])
  |(apply qa;exact rvk;simp only[go_sem];exact qi)
theorem qpk{L:List Rd}{r:Nat}(hr:r<L.length):L.getD r default∈L:=by rw[gdqA,jr hr];exact List.getElem_mem hr
theorem qjT{x:Co}{l:List Un}{b:List Wd}(ho:qyP x l){u:Nat}(hul:u<l.length):(hsK l b u).length≤x.sig.length:=by
 have hmem:l.getD u default∈l:=by rw[gdqA,jr hul];exact List.getElem_mem hul
 have hri:qga (l.getD u default).rds x.sig.length:=by rw[(ho.rg _ hmem).2.2.2];exact qfX _ _ _
 have hlt:=qev l b u;unfold hsK;split
 ·rename_i h0;have hr:(brK l b u).toNat<(l.getD u default).rds.length:=by omega
  have h1:=hri.src ((l.getD u default).rds.getD (brK l b u).toNat default) (qpk hr);have h2:=qcL (hi:=((x.sig.length:Nat):Int)) (lo:=0) h1.1 h1.2;omega
 ·exact nzl _
end RC
end
section
open Go Go.Proofs AF
end
section
open Go Go.Proofs AF HY LN
namespace RC
end RC
end
section
open Go Go.Proofs AF
def qrg:List Nat:= [83,87]
def qsF:C:=
 ((C.ops [O1 5 (.box 0 26) 0,MC 10 (.str []),MC 11 (i6 0)]).seq (((C.ops [O1 19 (.load (some 4)) 5,MV 20 1,MV 21 3,ON 22 (.call 38 true) [.t 19,.t 20,.t 21],MV 12 22]).seq
 ((C.ops [MV 23 12,BC 24 .neq 23 (i6 0)]).seq (C.cond (.t 24) ((C.ops [MV 25 12,MC 10 (.str []),MV 11 25]).seq C.ret) C.skip))).seq (((C.ops [MV 26 4,BC 27 .lss 26 (i6 0),MV 28
 27,MG 29 28 false 4,MG 30 28 false 3,P1 31 28 false .len 30,P2 32 28 false (.bin .geq) 29 31,PT 33 28 32]).seq (C.cond (.t 33) ((C.ops [MC 10 (.str []),MC 11 (i6 2)]).seq
 C.ret) C.skip)).seq ((C.ops [MV 34 3,MV 35 4,O2 36 (.idxA 7) 34 35,O1 37 (.load (some 7)) 36,⟨some 13,none,.alloc 1 64 [.str [],i6 0,i6 0,i6 0,.bool false,.bool false,
 .str []],[]⟩,ST 7 13 37]).seq (((C.ops [O1 38 (.fldA 3) 13,LD 39 38,MV 40 2,O1 41 .len 40,BI 42 .geq 39 41]).seq (C.cond (.t 42) ((C.ops [MC 10 (.str []),MC 11 (i6 6)]).seq
 C.ret) C.skip)).seq ((C.ops [⟨some 43,none,.build [.nilp,.nl] [],[]⟩,O1 44 (.box 2 132) 43,MV 14 44]).seq ((C.wk.seq (C.ops [MV 45 14,O1 46 (.mkfn (Fn.func 83) 1) 45,MV 15
 46])).seq ((C.ops [MV 47 15,O1 48 (.fldA 0) 13,LD 49 48,⟨some 50,none,.bslc 3 1 2 9 [.str []] [(0,1),(1,1)],[.t 49,.c (.str [58,32])]⟩,O2 51 .callv 47 50]).seq ((C.ops
 [⟨some 52,none,.bslc 4 1 0 9 [.str []] [],[]⟩,MV 16 52]).seq (((C.ops [O1 53 (.load (some 4)) 5,MV 54 1,MV 55 3,MV 56 4,ON 57 (.call 84 true) [.t 53,.t 54,.t 55,.t 56],
 O1 58 .len 57,MC 59 (i6 0)]).seq (C.block 0 ((C.ops [BI 60 .lss 59 58]).seq ((C.cond (.t 60) C.skip (C.exit 0)).seq ((C.block 1 ((C.ops [O2 61 (.idxA 1) 57 59,LD 62 61,MV 18
 62]).seq (C.ops [MV 63 16,O1 64 (.fldA 1) 5,LD 65 64,MV 66 18,O2 67 (.idxA 1) 65 66,LD 68 67,⟨some 69,none,.bslc 5 1 1 9 [.str []] [(0,1)],[.t 68]⟩,O2 70 (.app 6 1 9 16)
 63 69,MV 16 70]))).seq (C.ops [BC 71 .add 59 (i6 1),MV 59 71])))).loop)).seq (((C.ops [MV 72 16,O1 73 .len 72,BC 74 .eql 73 (i6 0)]).seq (C.cond (.t 74) (C.ops [MV 75 16,⟨some
 76,none,.bslc 7 1 1 9 [.str []] [(0,1)],[.c (.str [110,111,32,115,111,117,114,99,101])]⟩,O2 77 (.app 8 1 9 16) 75 76,MV 16 77]) C.skip)).seq ((C.ops [MV 78 15,MV 79
 16,OC 80 (.call 85 true) 79 (.str [32]),⟨some 81,none,.bslc 9 1 2 9 [.str []] [(0,1),(1,1)],[.t 80,.c (.str [59,32])]⟩,O2 82 .callv 78 81]).seq ((C.block 2 ((C.ops [O1
 90 (.fldA 2) 13,LD 91 90,BC 92 .lss 91 (i6 0),MV 89 92]).seq (C.cond (.t 89) (C.ops [MV 93 15,⟨some 94,none,.bslc 10 1 1 9 [.str []] [(0,1)],[.c (.str [99,111,109,109,
 111,110])]⟩,O2 95 .callv 93 94]) ((C.ops [O1 97 (.fldA 3) 13,LD 98 97,BC 99 .lss 98 (i6 0),MV 96 99]).seq (C.cond (.t 96) (C.ops [MV 100 15,⟨some 101,none,.bslc 11 1 1 9
 [.str []] [(0,1)],[.c (.str [108,101,97,100,105,110,103,32,115,111,117,114,99,101])]⟩,O2 102 .callv 100 101]) ((C.ops [MV 104 2,O1 105 (.fldA 3) 13,LD 106 105,O2
 107 (.idxA 4) 104 106,O1 108 (.fldA 0) 107,LD 109 108,BC 110 .eql 109 (i6 1),MV 103 110]).seq (C.cond (.t 103) (C.ops [MV 111 15,O1 112 (.fldA 3) 13,LD 113 112,O1 114 (.call
 86 true) 113,MV 115 2,O1 116 (.fldA 3) 13,LD 117 116,O2 118 (.idxA 4) 115 117,O1 119 (.fldA 1) 118,LD 120 119,⟨some 121,none,.bslc 12 1 4 9 [.str []] [(0,1),(1,1),(2,
 1),(3,1)],[.c (.str [100,101,99,105,115,105,111,110,32]),.t 114,.c (.str [44,32,99,104,111,105,99,101,32,111,102,32]),.t 120]⟩,O2 122 .callv 111 121])
 (C.ops [MV 83 15,O1 84 (.fldA 3) 13,LD 85 84,O1 86 (.call 86 true) 85,⟨some 87,none,.bslc 13 1 3 9 [.str []] [(0,1),(1,1),(2,1)],[.c (.str [100,101,99,105,115,105,
 111,110,32]),.t 86,.c (.str [44,32,99,111,110,106,101,99,116,117,114,101])]⟩,O2 88 .callv 83 87])))))))).seq ((C.ops [MV 123 14,O1 124 .nilchk 123,O1 125 (.fldA
 0) 124,O1 126 (.call 87 false) 125,MV 10 126,MC 11 (i6 0)]).seq
 C.ret))))))))))))))
theorem qjF:qI Tryz.prog 21 127 15 [RV.tmp 10,RV.tmp 11] qsF:=fi Tryz.f21 [5,13,44,50,52,69,70,76,77,81,94,101,121,87,43] qrg [10]
end
section
open Go Go.Proofs AF HY LN
namespace RC
structure Dc where
 kind:Int
 sig:Str
 tok:Int
 txt:Str
instance:Inhabited Dc:=⟨⟨0,[],0,[]⟩⟩
def dcC(d:Dc):List AV:= [.int .i64 d.kind,.str d.sig,.int .i64 d.tok,.str d.txt]
def qaR(l:List Dc):AV:= .sl l.length fun i=>dcC (l.getD i default)
theorem qjy(l:List Dc):(qaR l).flag=true:=rfl
theorem qhq(l:List Dc):(qaR l).strip=qaR l:=rfl
theorem qnY{fz:Nat→Bool}{h:List AObj}{n:Nat}(l:List Dc):rei fz h (n+1) (qaR l)=qaR l:=rfl
theorem qnb{fz:Nat→Bool}{h:List AObj}{n:Nat}(l:List Dc):frz fz h (n+1) (qaR l)=qaR l:=rfl
attribute [go_sem] qjy qhq qnY qnb
def exE(x:Co)(l:List Un)(d:List Dc)(b:List Wd)(i:Int):Int:=if pvE x l b≠0 then pvE x l b else if i<0∨(b.length:Int)≤i then 2 else if (d.length:Int)≤(b.getD i.toNat default).dec then 6 else 0
def joN(x:Co)(S:List Int):List Str:=S.map fun s=>x.sig.getD s.toNat []
def nmN(x:Co)(S:List Int):List Str:=if S= [] then [[110,111,32,115,111,117,114,99,101]] else joN x S
def tlL(d:List Dc)(w:Wd):List Str:=
 if w.unit<0 then [[99,111,109,109,111,110]] else if w.dec<0 then [[108,101,97,100,105,110,103,32,115,111,117,114,99,101]] else
  if (d.getD w.dec.toNat default).kind=1 then [[100,101,99,105,115,105,111,110,32],Lib.itoa w.dec,[44,32,99,104,111,105,99,101,32,111,102,32],(d.getD w.dec.toNat default).sig]
  else [[100,101,99,105,115,105,111,110,32],Lib.itoa w.dec,[44,32,99,111,110,106,101,99,116,117,114,101]]
def qsH(x:Co)(d:List Dc)(w:Wd)(S:List Int):Str:=(([]++ [w.text,[58,32]].flatten)++ [Lib.join (nmN x S) [32],[59,32]].flatten)++(tlL d w).flatten
def exR(x:Co)(l:List Un)(d:List Dc)(b:List Wd)(i:Int):Str:=if exE x l d b i=0 then qsH x d (b.getD i.toNat default) (soK x l b i.toNat) else []
theorem qlA(sep:Str)(B:Nat): ∀(L:List Str),(∀s∈L,s.length≤B)→(Lib.joinTail sep L).length≤L.length*(sep.length+B):=by
 intro L
 induction L with
 |nil=>intro _;simp[Lib.joinTail]
 |cons a L ih=>
  intro h;have e:Lib.joinTail sep (a::L)=(sep++a)++Lib.joinTail sep L:=by simp[Lib.joinTail]
  rw[e,lap,lap,lco,Nat.succ_mul];have h1:=ih (fun s hs=>h s (List.mem_cons_of_mem _ hs));have h2:=h a (List.mem_cons_self ..);omega
theorem qrm(sep:Str)(B:Nat)(L:List Str)(h: ∀s∈L,s.length≤B):(Lib.join L sep).length≤L.length*(sep.length+B):=by
 cases L with
 |nil=>simp[Lib.join_nil]
 |cons a L=>
  rw[Lib.join_cons,lap,lco,Nat.succ_mul];have h1:=qlA sep B L (fun s hs=>h s (List.mem_cons_of_mem _ hs));have h2:=h a (List.mem_cons_self ..);omega
theorem qlb{x:Co}{l:List Un}{b:List Wd}(g:pvE x l b=0){i:Nat}(hi:i<b.length):(soK x l b i).length≤x.sig.length∧ ∀s∈soK x l b i,0≤s∧s<x.sig.length:=by
 have hok:=qfQ g;have huo:=qlE hok.un;obtain⟨p1,p2⟩:=qc2 g hi;unfold soK;split
 ·refine⟨Nat.le_of_eq (qbv _),fun s hs=> ?_⟩;unfold qep at hs;obtain⟨k,hk,rfl⟩:=List.mem_map.1 hs
  have:=List.mem_range.1 hk
  omega
 ·have hul:(b.getD i default).unit.toNat<l.length:=by omega
  refine⟨qjT huo hul,fun s hs=> ?_⟩;have hmem:l.getD (b.getD i default).unit.toNat default∈l:=by rw[gdqA,jr hul];exact List.getElem_mem hul
  have hri:qga (l.getD (b.getD i default).unit.toNat default).rds x.sig.length:=by rw[(huo.rg _ hmem).2.2.2];exact qfX _ _ _
  have hlt:=qev l b (b.getD i default).unit.toNat;unfold hsK at hs;split at hs
  ·exact (hri.src _ (qpk om)).2 s hs
  ·cases hs
theorem qad{n:Int}(h0:0≤n)(h1:n≤1000000000):(Lib.itoa n).length≤1000:=by
 have:=Lib.itoa_length_le n om om
 omega
structure XZ where
 i:Nat
 v:Nat
 O:AObj
theorem qjr(x:Co)(l:List Un)(d:List Dc)(b:List Wd)(i:Int)(h:List AObj)(hz:qen x)(hu:qeo l)(hb:b.length≤1000000)(ht: ∀i,(b.getD i default).text.length≤1000000000)(hn:x.sig.length≤1000)
  (hsl: ∀s,(x.sig.getD s []).length≤1000) (hdl:d.length≤1000000) (hds: ∀j,(d.getD j default).sig.length≤1000000) (hp:ky SG h):
  ACalls Tryz.prog 21 [.agg (coC x),qz l,qaR d,qZ b,.int .i64 i] h (.tup [.str (exR x l d b i),.int .i64 (exE x l d b i)]) h:=by
 have c38:=fun l'=>pvP x l b (h++l') hz hu om ht (hp.app l')
 have z1: ∀g,valL g .len [qZ b]= .int .i64 b.length:=fun _=>rfl
 have z2: ∀g,okL g .len [qZ b]=True:=fun _=>eqt trivial
 have z3: ∀g,valL g .len [qaR d]= .int .i64 d.length:=fun _=>rfl
 have z4: ∀g,okL g .len [qaR d]=True:=fun _=>eqt trivial
 obtain⟨E,hE⟩: ∃E,E=exE x l d b i:=⟨_,rfl⟩
 have hR:exR x l d b i=if E=0 then qsH x d (b.getD i.toNat default) (soK x l b i.toNat) else []:=by rw[hE];rfl
 rw[hR,←hE];unfold exE at hE;unfold coC at c38
 by_cases g1:pvE x l b=0
 case neg=>
  rw[ipo g1]at hE;rw[hE,ine g1];have k1:(pvE x l b=0)=False:=eqf g1;refine acO qjF ?_;simp (disch:=omega) only[qsF,coC,go_sem]
  repeat' first
   |(refine cA (c38 _) flk ?_;simp (disch:=omega) only[k1,go_sem])
   |(apply qa;exact rvk;simp only[go_sem];exact qi)
 rw[ine (fun hc=>hc g1)]at hE;simp only[g1]at c38
 by_cases g2:i<0
 ·have k2:(i<0)=True:=eqt g2;rw[ipo (.inl g2)]at hE;rw[hE,ine (by decide)];refine acO qjF ?_;simp (disch:=omega) only[qsF,coC,go_sem]
  repeat' first
   |(refine cA (c38 _) flk ?_;simp (disch:=omega) only[z1,z2,k2,go_sem])
   |(apply qa;exact rvk;simp only[go_sem];exact qi)
 have k2:(i<0)=False:=eqf g2
 by_cases g3:(b.length:Int)≤i
 ·have k3:((b.length:Int)≤i)=True:=eqt g3;rw[ipo (.inr g3)]at hE;rw[hE,ine (by decide)];refine acO qjF ?_;simp (disch:=omega) only[qsF,coC,go_sem]
  repeat' first
   |(refine cA (c38 _) flk ?_;simp (disch:=omega) only[z1,z2,k2,k3,go_sem])
   |(apply qa;exact rvk;simp only[go_sem];exact qi)
 have k3:((b.length:Int)≤i)=False:=eqf g3;rw[ine (fun hc=>hc.elim g2 g3)]at hE;obtain⟨j,rfl⟩: ∃j:Nat,i=(j:Int):=⟨i.toNat,om⟩
 rw[itn]at hE ⊢;have hjl:j<b.length:=by omega
 have k0:(0≤(j:Int))=True:=eqt om;have k5:((j:Int)<b.length)=True:=eqt om;have zb:qZ b= .sl b.length fun i=>wdC (b.getD i default):=rfl
 have hpu:=qc2 g1 hjl;obtain⟨hSl,hSr⟩:=qlb g1 hjl;have htx:=(qfQ g1).tx j hjl;have c84:=fun h=>qpy x l b j h hu hb hjl om hpu.2
 obtain⟨S,hS⟩: ∃S,S=soK x l b j:=⟨_,rfl⟩
 rw[←hS]at hSl hSr;rw[←hS];simp only[←hS]at c84;unfold coC at c84;obtain⟨w,hw⟩: ∃w,w=b.getD j default:=⟨_,rfl⟩
 have ew:=hw.symm;rw[ew]at hE hpu htx;rw[ew]
 by_cases g4:(d.length:Int)≤w.dec
 ·have k4:((d.length:Int)≤w.dec)=True:=eqt g4;rw[ipo g4]at hE;rw[hE,ine (by decide)];refine acO qjF ?_;simp (disch:=omega) only[qsF,coC,zb,wdC,go_sem]
  repeat' first
   |(refine cA (c38 _) flk ?_;simp (disch:=omega) only[z3,z4,k2,k3,k0,k5,ew,k4,go_sem])
   |(apply qa;exact rvk;simp only[go_sem];exact qi)
 have k4:((d.length:Int)≤w.dec)=False:=eqf g4;rw[ine g4]at hE;rw[hE,ipo rfl];clear hE hR;refine acO qjF ?_;simp (disch:=omega) only[qsF,coC,zb,wdC,go_sem]
 repeat' first
  |(refine cA (c38 _) flk ?_;simp (disch:=omega) only[z3,z4,k2,k3,k0,k5,ew,k4,go_sem])
 refine⟨_,_,Wk.ownNil (j:=h.length+2) (i:=1) (k:=h.length+14) (v:=1) (ty:=132) (cs:= [.nilp,.nl]) (ve:=0) (sz:=1) ?m1 rfl ?m2,?_⟩
 case m1=>simp only[go_sem]
 case m2=>simp only[go_sem]
 simp (disch:=omega) only[List.set_cons_zero,List.set_cons_succ,go_sem];have hb1:w.text.length≤64:=htx.2;obtain⟨s1,hs1⟩: ∃s,s= []++ [w.text,[58,32]].flatten:=⟨_,rfl⟩
 have hl1:s1.length≤66:=by rw[hs1];simp;omega
 unfold qsH;rw[←hs1];have hNl:(nmN x S).length≤1001∧ ∀s∈nmN x S,s.length≤1000:=by
  unfold nmN joN;split
  ·exact⟨by simp,fun s hs=>by rw[List.mem_singleton.1 hs];simp⟩
  ·refine⟨by rw[List.length_map];omega,fun s hs=> ?_⟩;obtain⟨y,_,rfl⟩:=List.mem_map.1 hs;exact hsl _
 have hNM0:nmN x S=if S= [] then [[110,111,32,115,111,117,114,99,101]] else joN x S:=rfl
 obtain⟨NM,hNM⟩: ∃N,N=nmN x S:=⟨_,rfl⟩
 rw[←hNM]at hNl hNM0 ⊢;have hjn:=qrm [32] 1000 NM hNl.2;obtain⟨J,hJ⟩: ∃J,J=Lib.join NM [32]:=⟨_,rfl⟩
 have hJl:(Lib.join NM [32]).length≤1002001:=by
  have e:NM.length*(([32]:Str).length+1000)≤1001*1001:=Nat.mul_le_mul hNl.1 (nlr _);omega
 have hNl1:=hNl.1;have hJ2:J.length≤1002001:=by rw[hJ];exact hJl
 obtain⟨s2,hs2⟩: ∃s,s=s1++ [J,[59,32]].flatten:=⟨_,rfl⟩
 have hl2:s2.length≤1002100:=by rw[hs2];simp;omega
 rw[←hJ,←hs2];refine qN (kW (h.length+2) 1 (h.length+14) 0 (h.length+3) 1 .nilp [] [w.text,[58,32]] _ om om om (by simp only[go_sem];try rfl) (by simp only[go_sem];try rfl) (.inl rfl) (by simp only[go_sem];try rfl) (by simp) (by simp) (by simp;omega)) ?_;rw[←hs1];simp (disch:=omega) only[wrO,go_sem];have y1: ∀g,valL g .len [qq S]= .int .i64 S.length:=fun _=>rfl
 have y2: ∀g,okL g .len [qq S]=True:=fun _=>eqt trivial
 repeat' first
  |(refine cA (c84 _) flk ?_;simp (disch:=omega) only[y1,y2,go_sem])
 obtain⟨O3,hO3⟩: ∃O:AObj,O=AObj.mem 1 9 (AV.str w.text::AV.str [58,32]::List.drop 1 (List.drop 1 (qQ [AV.str []] 2))):=⟨_,rfl⟩
 rw[←hO3];have eM:qQ [AV.str []] 0=zZ (joN x (S.take 0)):=rfl;rw[eM];have hjl0: ∀k,k≤S.length→(joN x (S.take k)).length=k:=fun k hk=>by unfold joN;rw[List.length_map,List.length_take];omega
 have zS:qq S= .sl S.length fun i=> [.int .i64 (S.getD i 0)]:=rfl
 have zG:strs x.sig= .sl x.sig.length fun i=> [.str (x.sig.getD i [])]:=rfl
 refine qn (T:=fun s:XZ=>qM 127 [(2,qaR d),(5,.op h.length 1 0),(13,.op (h.length+1) 1 0),(14,.op (h.length+2) 1 0),(15,.fn (.func 83) [.op (h.length+2) 1 0] []),(16,.osl (h.length+4) s.v 1 0 s.i),(57,qq S),(58,.int .i64 S.length),(59,.int .i64 s.i)])
  (H:=fun s=>h++ [.mem 1 26 [.str x.sec,strs x.sig,qm x.tok,qp x.col],.mem 1 64 [AV.str w.text,AV.int .i64 w.col,AV.int .i64 w.unit,AV.int .i64 w.dec,AV.bool w.joined,AV.bool w.verse,AV.str w.name],.mem 1 132 [.op (h.length+2) 1 0,.osl (h.length+14) 2 1 0 s1.length],O3,.mem s.v 9 (zZ (joN x (S.take s.i))),s.O,.emp 0,.emp 0,.emp 0,.emp 0,.emp 0,.emp 0,.emp 0,.emp 0,qei 2 s1])
  (inv:=fun s=>s.i≤S.length∧qP [s.O] 0=true) (m:=fun s=>S.length-s.i) ⟨0,1,.emp 0⟩ ⟨nzl _,rfl⟩ (Wk.temps ?_) ?_
 ·(simp only[go_sem,qh,qe,qb,qg];try (repeat' first|(with_reducible apply aiA)|(apply qf;omega)|(apply qd;rfl)|exact qi))
 rintro⟨k,v,O⟩ ⟨q1,q2⟩ K hK;simp only at q1 q2 hK;have q2': ∀m,qP (O::m) 0=true:=fun _=>q2
 have hjk:=hjl0 k q1
 by_cases hk:k<S.length
 ·have r1:((k:Int)<S.length)=True:=eqt om;have r0:(0≤(k:Int))=True:=eqt om;have hmm:S.getD k 0∈S:=by rw[gdqA,jr hk];exact List.getElem_mem hk
  obtain⟨y1,y2⟩:=hSr _ hmm;have hst:joN x (S.take (k+1))=joN x (S.take k)++ [x.sig.getD (S.getD k 0).toNat []]:=by
   unfold joN;rw[List.take_add_one,List.map_append,jr hk,gdqA (l:=S),jr hk];rfl
  obtain⟨y,hy⟩: ∃y:Nat,S.getD k 0=(y:Int):=⟨(S.getD k 0).toNat,om⟩
  rw[hy,itn]at hst;rw[hy]at y1 y2;have t1:((y:Int)<x.sig.length)=True:=eqt y2;have t0:(0≤(y:Int))=True:=eqt y1;obtain⟨u,hu'⟩: ∃u,u=x.sig.getD y []:=⟨_,rfl⟩
  have eu:=hu'.symm;rw[eu]at hst;obtain⟨M,hM⟩: ∃M,M=joN x (S.take k):=⟨_,rfl⟩
  rw[←hM]at hst hjk;rw[←hM];have eC:=zO M;rw[hjk]at eC;have eT:List.take k (zZ M)=zZ M:=ltl om;simp (disch:=omega) only[zS,zG,r0,r1,hy,t0,t1,eu,q2',eC,eT,Nat.mul_one,go_sem]
  repeat' first
   |with_reducible apply aiA
  all_goals try exact clz
  have eA:zZ M++ [AV.str u]=zZ (joN x (S.take (k+1))):=by rw[hst,qbD];rfl
  have eD:(AV.str u::List.drop 1 (qQ [AV.str []] 1))= [AV.str u]:=rfl
  try rw[eD]
  rw[eA];refine hK _ _ ⟨k+1,v+1,.mem (qr (some O)+1) 9 [.str u]⟩ ⟨hk,rfl⟩ (by simp only;omega) (Wk.temps ?_)
  (simp only[zS,go_sem,qh,qe,qb,qg];try (repeat' first|(with_reducible apply aiA)|(apply qf;omega)|(apply qd;rfl)|exact qi))
 obtain rfl:k=S.length:=by omega
 clear hK;have r1:((S.length:Int)<S.length)=False:=eqf om;rw[List.take_length]at hjk ⊢
 by_cases h0:S= []
 ·have r2:((S.length:Int)=0)=True:=eqt (by rw[h0];rfl);rw[ipo h0]at hNM0;have hjz:joN x S= []:=by rw[h0];rfl
  have hSz:S.length=0:=by rw[h0];rfl
  rw[hjz,hSz];have eS0:zZ ([]:List Str)= []:=rfl;rw[hSz]at r1 r2;have hNL:NM.length=1:=by rw[hNM0];rfl
  have eNM: [AV.str [110,111,32,115,111,117,114,99,101]]=zZ NM:=by rw[hNM0];rfl
  simp (disch:=omega) only[r1,r2,eS0,Nat.mul_one,go_sem]
  repeat' first
   |with_reducible apply aiA
  all_goals try exact clz
  try rw[eNM]
  refine cA (joB (L:=NM) (sep:= [32]) ?v1 om om) ?v2 ?v3
  case v2=>exact flk
  case v1=>
   simp only[List.map,go_sem]
   first
    |exact⟨slM_str (fun _=>rfl) hNL.symm,qi,trivial⟩
    |(rw[ipo (by rw[zO];exact Nat.le_of_eq hNL.symm)];exact⟨qaN _ (fun _=>rfl) hNL.symm,qi,trivial⟩)
  case v3=>
  rw[←hJ];simp (disch:=omega) only[List.set_cons_zero,go_sem];unfold tlL
  by_cases u1:w.unit<0
  ·have e1:(w.unit<0)=True:=eqt u1;rw[ipo u1];refine qN (kW (h.length+2) 1 (h.length+14) 2 (h.length+9) 1 (.op (h.length+2) 1 0) s1 [J,[59,32]] _ om om om (by simp only[go_sem];try rfl) (by simp only[go_sem];try rfl) (.inr rfl) (by simp only[go_sem];try rfl) (by simp) (by simp) (by simp;omega)) ?_;rw[←hs2];simp (disch:=omega) only[wrO,e1,go_sem];obtain⟨s3,hs3⟩: ∃s,s=s2++([[99,111,109,109,111,110]]:List Str).flatten:=⟨_,rfl⟩
   rw[←hs3];refine qN (kW (h.length+2) 1 (h.length+14) 4 (h.length+10) 1 (.op (h.length+2) 1 0) s2 [[99,111,109,109,111,110]] _ om om om (by simp only[go_sem];try rfl) (by simp only[go_sem];try rfl) (.inr rfl) (by simp only[go_sem];try rfl) (by simp) (by simp) (by simp;omega)) ?_;rw[←hs3];simp (disch:=omega) only[wrO,go_sem];refine zp (qpz (h.length+2) 1 (h.length+14) 5 (.op (h.length+2) 1 0) s3 _ om (by simp only[go_sem];try rfl) (by simp only[go_sem];try rfl)) (by exact flk) ?_;simp (disch:=omega) only[go_sem]
   repeat' first
    |(apply qa;exact rvk;simp only[go_sem];exact qi)
  have e1:(w.unit<0)=False:=eqf u1;rw[ine u1]
  by_cases u2:w.dec<0
  ·have e2:(w.dec<0)=True:=eqt u2;rw[ipo u2];refine qN (kW (h.length+2) 1 (h.length+14) 2 (h.length+9) 1 (.op (h.length+2) 1 0) s1 [J,[59,32]] _ om om om (by simp only[go_sem];try rfl) (by simp only[go_sem];try rfl) (.inr rfl) (by simp only[go_sem];try rfl) (by simp) (by simp) (by simp;omega)) ?_;rw[←hs2];simp (disch:=omega) only[wrO,e1,e2,go_sem];obtain⟨s3,hs3⟩: ∃s,s=s2++([[108,101,97,100,105,110,103,32,115,111,117,114,99,101]]:List Str).flatten:=⟨_,rfl⟩
   rw[←hs3];refine qN (kW (h.length+2) 1 (h.length+14) 4 (h.length+11) 1 (.op (h.length+2) 1 0) s2 [[108,101,97,100,105,110,103,32,115,111,117,114,99,101]] _ om om om (by simp only[go_sem];try rfl) (by simp only[go_sem];try rfl) (.inr rfl) (by simp only[go_sem];try rfl) (by simp) (by simp) (by simp;omega)) ?_;rw[←hs3];simp (disch:=omega) only[wrO,go_sem];refine zp (qpz (h.length+2) 1 (h.length+14) 5 (.op (h.length+2) 1 0) s3 _ om (by simp only[go_sem];try rfl) (by simp only[go_sem];try rfl)) (by exact flk) ?_;simp (disch:=omega) only[go_sem]
   repeat' first
    |(apply qa;exact rvk;simp only[go_sem];exact qi)
  have e2:(w.dec<0)=False:=eqf u2;rw[ine u2];have hdc:w.dec<d.length:=by omega
  have c86:=fun l'=>t48 w.dec (h++l') (SG.pow (hp.app l')) om om
  have hil:=qad (n:=w.dec) om om;obtain⟨I,hI⟩: ∃I,I=Lib.itoa w.dec:=⟨_,rfl⟩
  rw[←hI]at hil;simp only[←hI]at c86 ⊢;have hsg:=hds w.dec.toNat;obtain⟨D,hD⟩: ∃D,D=d.getD w.dec.toNat default:=⟨_,rfl⟩
  have eD:=hD.symm;rw[eD]at hsg ⊢;have zd:qaR d= .sl d.length fun i=>dcC (d.getD i default):=rfl
  have e3:(0≤w.dec)=True:=eqt om;have e4:(w.dec<d.length)=True:=eqt hdc
  by_cases u3:D.kind=1
  ·have e5:(D.kind=1)=True:=eqt u3;rw[ipo u3];refine qN (kW (h.length+2) 1 (h.length+14) 2 (h.length+9) 1 (.op (h.length+2) 1 0) s1 [J,[59,32]] _ om om om (by simp only[go_sem];try rfl) (by simp only[go_sem];try rfl) (.inr rfl) (by simp only[go_sem];try rfl) (by simp) (by simp) (by simp;omega)) ?_;rw[←hs2];simp (disch:=omega) only[wrO,e1,e2,e3,e4,e5,zd,dcC,eD,go_sem]
   repeat' first
    |(refine cA (c86 _) flk ?_;simp (disch:=omega) only[e3,e4,eD,List.set_cons_zero,go_sem])
   obtain⟨s3,hs3⟩: ∃s,s=s2++([[100,101,99,105,115,105,111,110,32],I,[44,32,99,104,111,105,99,101,32,111,102,32],D.sig]:List Str).flatten:=⟨_,rfl⟩
   rw[←hs3];refine qN (kW (h.length+2) 1 (h.length+14) 4 (h.length+12) 1 (.op (h.length+2) 1 0) s2 [[100,101,99,105,115,105,111,110,32],I,[44,32,99,104,111,105,99,101,32,111,102,32],D.sig] _ om om om (by simp only[go_sem];try rfl) (by simp only[go_sem];try rfl) (.inr rfl) (by simp only[go_sem];try rfl) (by simp) (by simp) (by simp;omega)) ?_;rw[←hs3];simp (disch:=omega) only[wrO,go_sem];refine zp (qpz (h.length+2) 1 (h.length+14) 8 (.op (h.length+2) 1 0) s3 _ om (by simp only[go_sem];try rfl) (by simp only[go_sem];try rfl)) (by exact flk) ?_;simp (disch:=omega) only[go_sem]
   repeat' first
    |(apply qa;exact rvk;simp only[go_sem];exact qi)
  have e5:(D.kind=1)=False:=eqf u3;rw[ine u3];refine qN (kW (h.length+2) 1 (h.length+14) 2 (h.length+9) 1 (.op (h.length+2) 1 0) s1 [J,[59,32]] _ om om om (by simp only[go_sem];try rfl) (by simp only[go_sem];try rfl) (.inr rfl) (by simp only[go_sem];try rfl) (by simp) (by simp) (by simp;omega)) ?_;rw[←hs2];simp (disch:=omega) only[wrO,e1,e2,e3,e4,e5,zd,dcC,eD,go_sem]
  repeat' first
   |(refine cA (c86 _) flk ?_;simp (disch:=omega) only[List.set_cons_zero,go_sem])
  obtain⟨s3,hs3⟩: ∃s,s=s2++([[100,101,99,105,115,105,111,110,32],I,[44,32,99,111,110,106,101,99,116,117,114,101]]:List Str).flatten:=⟨_,rfl⟩
  rw[←hs3];refine qN (kW (h.length+2) 1 (h.length+14) 4 (h.length+13) 1 (.op (h.length+2) 1 0) s2 [[100,101,99,105,115,105,111,110,32],I,[44,32,99,111,110,106,101,99,116,117,114,101]] _ om om om (by simp only[go_sem];try rfl) (by simp only[go_sem];try rfl) (.inr rfl) (by simp only[go_sem];try rfl) (by simp) (by simp) (by simp;omega)) ?_;rw[←hs3];simp (disch:=omega) only[wrO,go_sem];refine zp (qpz (h.length+2) 1 (h.length+14) 7 (.op (h.length+2) 1 0) s3 _ om (by simp only[go_sem];try rfl) (by simp only[go_sem];try rfl)) (by exact flk) ?_;simp (disch:=omega) only[go_sem]
  repeat' first
   |(apply qa;exact rvk;simp only[go_sem];exact qi)
 ·have r2:((S.length:Int)=0)=False:=eqf (fun hc=>h0 (List.length_eq_zero_iff.1 om));rw[ine h0]at hNM0;have hNL:NM.length=S.length:=by rw[hNM0];exact hjk
  rw[←hNM0];simp (disch:=omega) only[r1,r2,go_sem];refine cA (joB (L:=NM) (sep:= [32]) ?v1 om om) ?v2 ?v3
  case v2=>exact flk
  case v1=>
   simp only[List.map,go_sem]
   first
    |exact⟨slM_str (fun _=>rfl) hNL.symm,qi,trivial⟩
    |(rw[ipo (by rw[zO];exact Nat.le_of_eq hNL.symm)];exact⟨qaN _ (fun _=>rfl) hNL.symm,qi,trivial⟩)
  case v3=>
  rw[←hJ];simp (disch:=omega) only[List.set_cons_zero,go_sem];unfold tlL
  by_cases u1:w.unit<0
  ·have e1:(w.unit<0)=True:=eqt u1;rw[ipo u1];refine qN (kW (h.length+2) 1 (h.length+14) 2 (h.length+9) 1 (.op (h.length+2) 1 0) s1 [J,[59,32]] _ om om om (by simp only[go_sem];try rfl) (by simp only[go_sem];try rfl) (.inr rfl) (by simp only[go_sem];try rfl) (by simp) (by simp) (by simp;omega)) ?_;rw[←hs2];simp (disch:=omega) only[wrO,e1,go_sem];obtain⟨s3,hs3⟩: ∃s,s=s2++([[99,111,109,109,111,110]]:List Str).flatten:=⟨_,rfl⟩
   rw[←hs3];refine qN (kW (h.length+2) 1 (h.length+14) 4 (h.length+10) 1 (.op (h.length+2) 1 0) s2 [[99,111,109,109,111,110]] _ om om om (by simp only[go_sem];try rfl) (by simp only[go_sem];try rfl) (.inr rfl) (by simp only[go_sem];try rfl) (by simp) (by simp) (by simp;omega)) ?_;rw[←hs3];simp (disch:=omega) only[wrO,go_sem];refine zp (qpz (h.length+2) 1 (h.length+14) 5 (.op (h.length+2) 1 0) s3 _ om (by simp only[go_sem];try rfl) (by simp only[go_sem];try rfl)) (by exact flk) ?_;simp (disch:=omega) only[go_sem]
   repeat' first
    |(apply qa;exact rvk;simp only[go_sem];exact qi)
  have e1:(w.unit<0)=False:=eqf u1;rw[ine u1]
  by_cases u2:w.dec<0
  ·have e2:(w.dec<0)=True:=eqt u2;rw[ipo u2];refine qN (kW (h.length+2) 1 (h.length+14) 2 (h.length+9) 1 (.op (h.length+2) 1 0) s1 [J,[59,32]] _ om om om (by simp only[go_sem];try rfl) (by simp only[go_sem];try rfl) (.inr rfl) (by simp only[go_sem];try rfl) (by simp) (by simp) (by simp;omega)) ?_;rw[←hs2];simp (disch:=omega) only[wrO,e1,e2,go_sem];obtain⟨s3,hs3⟩: ∃s,s=s2++([[108,101,97,100,105,110,103,32,115,111,117,114,99,101]]:List Str).flatten:=⟨_,rfl⟩
   rw[←hs3];refine qN (kW (h.length+2) 1 (h.length+14) 4 (h.length+11) 1 (.op (h.length+2) 1 0) s2 [[108,101,97,100,105,110,103,32,115,111,117,114,99,101]] _ om om om (by simp only[go_sem];try rfl) (by simp only[go_sem];try rfl) (.inr rfl) (by simp only[go_sem];try rfl) (by simp) (by simp) (by simp;omega)) ?_;rw[←hs3];simp (disch:=omega) only[wrO,go_sem];refine zp (qpz (h.length+2) 1 (h.length+14) 5 (.op (h.length+2) 1 0) s3 _ om (by simp only[go_sem];try rfl) (by simp only[go_sem];try rfl)) (by exact flk) ?_;simp (disch:=omega) only[go_sem]
   repeat' first
    |(apply qa;exact rvk;simp only[go_sem];exact qi)
  have e2:(w.dec<0)=False:=eqf u2;rw[ine u2];have hdc:w.dec<d.length:=by omega
  have c86:=fun l'=>t48 w.dec (h++l') (SG.pow (hp.app l')) om om
  have hil:=qad (n:=w.dec) om om;obtain⟨I,hI⟩: ∃I,I=Lib.itoa w.dec:=⟨_,rfl⟩
  rw[←hI]at hil;simp only[←hI]at c86 ⊢;have hsg:=hds w.dec.toNat;obtain⟨D,hD⟩: ∃D,D=d.getD w.dec.toNat default:=⟨_,rfl⟩
  have eD:=hD.symm;rw[eD]at hsg ⊢;have zd:qaR d= .sl d.length fun i=>dcC (d.getD i default):=rfl
  have e3:(0≤w.dec)=True:=eqt om;have e4:(w.dec<d.length)=True:=eqt hdc
  by_cases u3:D.kind=1
  ·have e5:(D.kind=1)=True:=eqt u3;rw[ipo u3];refine qN (kW (h.length+2) 1 (h.length+14) 2 (h.length+9) 1 (.op (h.length+2) 1 0) s1 [J,[59,32]] _ om om om (by simp only[go_sem];try rfl) (by simp only[go_sem];try rfl) (.inr rfl) (by simp only[go_sem];try rfl) (by simp) (by simp) (by simp;omega)) ?_;rw[←hs2];simp (disch:=omega) only[wrO,e1,e2,e3,e4,e5,zd,dcC,eD,go_sem]
   repeat' first
    |(refine cA (c86 _) flk ?_;simp (disch:=omega) only[e3,e4,eD,List.set_cons_zero,go_sem])
   obtain⟨s3,hs3⟩: ∃s,s=s2++([[100,101,99,105,115,105,111,110,32],I,[44,32,99,104,111,105,99,101,32,111,102,32],D.sig]:List Str).flatten:=⟨_,rfl⟩
   rw[←hs3];refine qN (kW (h.length+2) 1 (h.length+14) 4 (h.length+12) 1 (.op (h.length+2) 1 0) s2 [[100,101,99,105,115,105,111,110,32],I,[44,32,99,104,111,105,99,101,32,111,102,32],D.sig] _ om om om (by simp only[go_sem];try rfl) (by simp only[go_sem];try rfl) (.inr rfl) (by simp only[go_sem];try rfl) (by simp) (by simp) (by simp;omega)) ?_;rw[←hs3];simp (disch:=omega) only[wrO,go_sem];refine zp (qpz (h.length+2) 1 (h.length+14) 8 (.op (h.length+2) 1 0) s3 _ om (by simp only[go_sem];try rfl) (by simp only[go_sem];try rfl)) (by exact flk) ?_;simp (disch:=omega) only[go_sem]
   repeat' first
    |(apply qa;exact rvk;simp only[go_sem];exact qi)
  have e5:(D.kind=1)=False:=eqf u3;rw[ine u3];refine qN (kW (h.length+2) 1 (h.length+14) 2 (h.length+9) 1 (.op (h.length+2) 1 0) s1 [J,[59,32]] _ om om om (by simp only[go_sem];try rfl) (by simp only[go_sem];try rfl) (.inr rfl) (by simp only[go_sem];try rfl) (by simp) (by simp) (by simp;omega)) ?_;rw[←hs2];simp (disch:=omega) only[wrO,e1,e2,e3,e4,e5,zd,dcC,eD,go_sem]
  repeat' first
   |(refine cA (c86 _) flk ?_;simp (disch:=omega) only[List.set_cons_zero,go_sem])
  obtain⟨s3,hs3⟩: ∃s,s=s2++([[100,101,99,105,115,105,111,110,32],I,[44,32,99,111,110,106,101,99,116,117,114,101]]:List Str).flatten:=⟨_,rfl⟩
  rw[←hs3];refine qN (kW (h.length+2) 1 (h.length+14) 4 (h.length+13) 1 (.op (h.length+2) 1 0) s2 [[100,101,99,105,115,105,111,110,32],I,[44,32,99,111,110,106,101,99,116,117,114,101]] _ om om om (by simp only[go_sem];try rfl) (by simp only[go_sem];try rfl) (.inr rfl) (by simp only[go_sem];try rfl) (by simp) (by simp) (by simp;omega)) ?_;rw[←hs3];simp (disch:=omega) only[wrO,go_sem];refine zp (qpz (h.length+2) 1 (h.length+14) 7 (.op (h.length+2) 1 0) s3 _ om (by simp only[go_sem];try rfl) (by simp only[go_sem];try rfl)) (by exact flk) ?_;simp (disch:=omega) only[go_sem]
  repeat' first
   |(apply qa;exact rvk;simp only[go_sem];exact qi)
def qn8:Str:= [101,114,97,116]
def yC:Co:=⟨[73],[[65],[66]],[[tkS qn7,tkS qyk],[tkS qn7,tkS qn8]],[[0,0],[1,1]]⟩
def yL:List Un:= [⟨1,2,[⟨[qyk],[0]⟩,⟨[qn8],[1]⟩]⟩]
def yD:List Dc:= [⟨1,[66],1,[]⟩]
def yB:List Wd:= [⟨qn7,0,-1,-1,false,false,[]⟩,⟨qn8,1,0,0,false,false,[]⟩]
theorem qzb:soE yC yL yB 1=0∧soL yC yL yB 1= [1]:=by decide+kernel
theorem qzc:exE yC yL yD yB 0=0∧exR yC yL yD yB 0= [100,101,117,115,58,32,65,32,66,59,32,99,111,109,109,111,110]:=by decide+kernel
theorem qzd:exE yC yL yD yB 1=0∧exR yC yL yD yB 1= [101,114,97,116,58,32,66,59,32,100,101,99,105,115,105,111,110,32,48,44,32,99,104,111,105,99,101,32,111,102,32,66]:=by decide+kernel
theorem qyo(s:Str)(h:List AObj):ACalls Tryz.prog 151 [.str s] h (.agg (tkC (tkS s))) h:=by
 unfold tkS tkC;refine acO qus ?_;simp (disch:=omega) only[qs9,go_sem]
 repeat' first
  |(apply qa;exact rvk;simp only[go_sem];exact qi)
theorem qzu(h:List AObj):ACalls Tryz.prog 80 [] h (.tup [.agg (coC yC),qz yL,qaR yD,qZ yB]) h:=by
 have c1:=fun s h=>qyo s h
 unfold tkS tkC at c1;refine acO qxQ ?_;simp (disch:=omega) only[qyW,go_sem]
 repeat' first
  |(refine qu (c1 qn7 _) ?_;simp (disch:=omega) only[go_sem])
  |(refine qu (c1 qyk _) ?_;simp (disch:=omega) only[go_sem])
  |(refine qu (c1 qn8 _) ?_;simp (disch:=omega) only[go_sem])
  |(apply qa;exact rvk;simp only[go_sem])
 refine ju ⟨VLe.agg ⟨qi,vl2 ⟨ie rfl,trivial⟩ ⟨ie rfl,trivial⟩,vl2 ⟨?a1,trivial⟩ ⟨?a2,trivial⟩,vl2 ⟨?a3,trivial⟩ ⟨?a4,trivial⟩,trivial⟩,vl1 ⟨ie rfl,ie rfl,?b1,trivial⟩,vl1 ⟨ie rfl,ie rfl,ie rfl,ie rfl,trivial⟩,
  vl2 ⟨ie rfl,ie rfl,ie rfl,ie rfl,ie rfl,ie rfl,ie rfl,trivial⟩ ⟨ie rfl,ie rfl,ie rfl,ie rfl,ie rfl,ie rfl,ie rfl,trivial⟩,trivial⟩
 case a1=>simp only[go_sem];exact il2 rfl rfl
 case a2=>simp only[go_sem];exact il2 rfl rfl
 case a3=>simp only[go_sem];exact il2 rfl rfl
 case a4=>simp only[go_sem];exact il2 rfl rfl
 case b1=>
  simp only[go_sem];refine im2 ⟨?u1,?u2,trivial⟩ ⟨?u3,?u4,trivial⟩
  all_goals
   simp only[go_sem];exact il1 rfl
def gWb(b:List Wd)(i:Nat):Bool:=decide (66<(b.getD i default).text.length)||decide (20<(b.getD i default).name.length)
def qsJ(b:List Wd):Bool:=zH (gWb b) b.length||decide (12<b.length)
theorem qx0(b:List Wd)(h:List AObj)(hn:b.length≤9223372036854775807):ACalls Tryz.prog 79 [qZ b] h (.bool (qsJ b)) h:=by
 obtain⟨R,hR⟩: ∃R,R=qsJ b:=⟨_,rfl⟩
 rw[←hR];unfold qsJ at hR;have zb:qZ b= .sl b.length fun i=>wdC (b.getD i default):=rfl
 refine acO qxP ?_;simp (disch:=omega) only[qyV,go_sem];refine qn (T:=fun i:Nat=>qM 29 [(0,qZ b),(3,.int .i64 i)]) (H:=fun _=>h) (inv:=fun i=>i≤b.length∧ ∀j,j<i→gWb b j=false) (m:=fun i=>b.length-i) 0 ⟨nzl _,fun j hj=>absurd hj (nnz j)⟩ (Wk.temps ?_) ?_
 ·(simp only[go_sem,qh,qe,qb,qg];try (repeat' first|(with_reducible apply aiA)|(apply qf;omega)|(apply qd;rfl)|exact qi))
 rintro i ⟨i1,i2⟩ K hK
 by_cases hi:i<b.length
 ·have k1:((i:Int)<b.length)=True:=eqt om;have k0:(0≤(i:Int))=True:=eqt om;have hit:gWb b i=true→R=true:=fun hc=>by rw[hR,qv.2 ⟨i,hi,hc⟩];rfl
  have i3:=fun hc=>jj (p:=gWb b) i2 hc
  have hG:gWb b i=(decide (66<(b.getD i default).text.length)||decide (20<(b.getD i default).name.length)):=rfl;obtain⟨w,hw⟩: ∃w,w=b.getD i default:=⟨_,rfl⟩
  have ew:=hw.symm;rw[ew]at hG
  by_cases g1:66<w.text.length
  ·have q1:((66:Int)<w.text.length)=True:=eqt om;rw[hit (by rw[hG,dqt g1];rfl)];simp (disch:=omega) only[zb,wdC,k0,k1,ew,q1,go_sem]
   repeat' first
    |(apply qc;exact rvk;simp only[go_sem];exact qi)
  have q1:((66:Int)<w.text.length)=False:=eqf om
  by_cases g2:20<w.name.length
  ·have q2:((20:Int)<w.name.length)=True:=eqt om;rw[hit (by rw[hG,dqt g2,Bool.or_true])];simp (disch:=omega) only[zb,wdC,k0,k1,ew,q1,q2,go_sem]
   repeat' first
    |(apply qc;exact rvk;simp only[go_sem];exact qi)
    |with_reducible apply aiA
   all_goals try exact clz
  have q2:((20:Int)<w.name.length)=False:=eqf om;simp (disch:=omega) only[zb,wdC,k0,k1,ew,q1,q2,go_sem]
  repeat' first
   |with_reducible apply aiA
  all_goals try exact clz
  refine hK _ _ (i+1) ⟨hi,i3 (by rw[hG,dqf g1,dqf g2];rfl)⟩ om (Wk.temps ?_)
  (simp only[zb,wdC,go_sem,qh,qe,qb,qg];try (repeat' first|(with_reducible apply aiA)|(apply qf;omega)|(apply qd;rfl)|exact qi))
 obtain rfl:i=b.length:=by omega
 have k1:((b.length:Int)<b.length)=False:=eqf om;rw[qk.2 (fun j hj=>i2 j hj),Bool.false_or]at hR
 by_cases g:12<b.length
 ·have q:((12:Int)<b.length)=True:=eqt om;rw[dqt g]at hR;rw[hR];simp (disch:=omega) only[zb,k1,q,go_sem]
  repeat' first
   |(apply qc;exact rvk;simp only[go_sem];exact qi)
 ·have q:((12:Int)<b.length)=False:=eqf om;rw[dqf g]at hR;rw[hR];simp (disch:=omega) only[zb,k1,q,go_sem]
  repeat' first
   |(apply qc;exact rvk;simp only[go_sem];exact qi)
def qq6(x:Co)(l:List Un)(b:List Wd):Bool:=qnh x||(qq5 l||qsJ b)
theorem qzB(x:Co)(l:List Un)(b:List Wd)(h:List AObj)(h1:CoB x)(h2:UnB l)(h3:b.length≤9223372036854775807):ACalls Tryz.prog 14 [.agg (coC x),qz l,qZ b] h (.bool (qq6 x l b)) h:=by
 have c1:=fun h=>qzx x h h1
 have c2:=fun h=>qzy l h h2
 have c3:=fun h=>qx0 b h h3
 unfold qq6;cases e1:qnh x with
 |true=>
  rw[e1]at c1;unfold coC at c1;refine acO qm5 ?_;simp (disch:=omega) only[qs7,coC,go_sem]
  repeat' first
   |(refine qj ( .bool false) ?_;simp (disch:=omega) only[go_sem])
   |(refine cA (c1 _) flk ?_;simp (disch:=omega) only[go_sem])
   |(apply qa;exact rvk;simp only[go_sem];exact qi)
 |false=>
  rw[e1]at c1;unfold coC at c1;cases e2:qq5 l with
  |true=>
   rw[e2]at c2;refine acO qm5 ?_;simp (disch:=omega) only[qs7,coC,go_sem]
   repeat' first
    |(refine qj ( .bool false) ?_;simp (disch:=omega) only[go_sem])
    |((first|refine cA (c1 _) ?_ ?_|refine cG (fun e=>c2 _) ?_ ?_);exact flk;simp (disch:=omega) only[go_sem])
    |(apply qa;exact rvk;simp only[go_sem];exact qi)
  |false=>
   rw[e2]at c2;cases e3:qsJ b with
   |true=>
    rw[e3]at c3;refine acO qm5 ?_;simp (disch:=omega) only[qs7,coC,go_sem]
    repeat' first
     |((first|refine cA (c1 _) ?_ ?_|refine cG (fun e=>c2 _) ?_ ?_|refine cG (fun e=>c3 _) ?_ ?_);exact flk;simp (disch:=omega) only[go_sem])
     |(apply qa;exact rvk;simp only[go_sem];exact qi)
   |false=>
    rw[e3]at c3;refine acO qm5 ?_;simp (disch:=omega) only[qs7,coC,go_sem]
    repeat' first
     |((first|refine cA (c1 _) ?_ ?_|refine cG (fun e=>c2 _) ?_ ?_|refine cG (fun e=>c3 _) ?_ ?_);exact flk;simp (disch:=omega) only[go_sem])
     |(apply qa;exact rvk;simp only[go_sem];exact qi)
theorem qpi{x:Co}{l:List Un}{b:List Wd}(h:qq6 x l b=false):qen x∧qeo l∧b.length≤12∧(∀i,(b.getD i default).text.length≤66)∧x.sig.length≤36:=by
 unfold qq6 qsJ at h;simp only[Bool.or_eq_false_iff,decide_eq_false_iff_not]at h;obtain⟨h1,h2,h3,h4⟩:=h;obtain⟨o1,_,o3⟩:=qvi h1;obtain⟨u1,_⟩:=qvk h2;refine⟨o1,u1,om,?_,o3⟩;refine zj b (fun w=>w.text.length≤66) (by decide) fun i hi=> ?_
 have:=qk.1 h3 i hi
 unfold gWb at this;rw[Bool.or_eq_false_iff]at this
 have:=of_decide_eq_false this.1
 omega
theorem qAl:qq6 yC yL yB=false:=by decide+kernel
theorem qxf(h:List AObj)(hp:ky SG h):ACalls Tryz.prog 16 [] h (.bool true) h:=by
 have c1:=fun h=>qzu h
 obtain⟨o1,o2,o3,o4,o5⟩:=qpi qAl;have o4': ∀i,(yB.getD i default).text.length≤1000000000:=fun i=>by have:=o4 i;omega
 have ysg: ∀s,(yC.sig.getD s []).length≤1000:=zj yC.sig (fun s=>s.length≤1000) (by decide) (by decide);have yds: ∀j,(yD.getD j default).sig.length≤1000000:=zj yD (fun d=>d.sig.length≤1000000) (by decide) (by decide);have c2:=fun l'=>qr6 yC yL yB 1 (h++l') o1 o2 om o4' om (hp.app l')
 have c3:=fun l'=>qjr yC yL yD yB 0 (h++l') o1 o2 om o4' om ysg (by decide) yds (hp.app l')
 have c4:=fun l'=>qjr yC yL yD yB 1 (h++l') o1 o2 om o4' om ysg (by decide) yds (hp.app l')
 rw[qzb.1,qzb.2]at c2;rw[qzc.1,qzc.2]at c3;rw[qzd.1,qzd.2]at c4;have c5:=fun h=>qy0 [1] [1] h (by decide) (by decide)
 rw[dqt rfl]at c5;unfold coC at c1 c2 c3 c4;refine acO qxH ?_;simp (disch:=omega) only[qyR,go_sem]
 repeat' first
  |((first|refine cA (c1 _) ?_ ?_|refine cA (c2 _) ?_ ?_|refine cA (c3 _) ?_ ?_|refine cA (c4 _) ?_ ?_);exact flk;simp (disch:=omega) only[go_sem])
  |with_reducible apply aiA
 all_goals try exact clz
 refine cG (fun _=>qzr (L:= [1]) ?v1 (by decide)) ?v2 ?v3
 case v2=>exact flk
 case v1=>
  simp only[List.map,go_sem];exact⟨qi,VLe.sl_eq rfl (fun i hi=>by
   obtain rfl:i=0:=by omega
   rfl),trivial⟩
 case v3=>
 simp (disch:=omega) only[go_sem]
 repeat' first
  |(apply qa;exact rvk;simp only[go_sem];exact qi)
def dgS:Str:= [48,49,50,51,52,53,54,55,56,57]
theorem qoU: ∀r,r<10→List.take 1 (List.drop r dgS)= [UInt8.ofNat (48+r)]:=by decide
theorem qqF{m:Nat}(h:10≤m):Lib.decDigits m=Lib.decDigits (m/10)++ [UInt8.ofNat (48+m%10)]:=by
 conv=>lhs;rw[Lib.decDigits]
 rw[dif_neg om]
theorem qjk{m:Nat}(h:m<10):Lib.decDigits m= [UInt8.ofNat (48+m)]:=by
 rw[Lib.decDigits,dif_pos h]
theorem qt1(n:Nat)(h:List AObj)(hn:n≤1000000000):ACalls Tryz.prog 89 [.int .i64 (n:Int)] h (.str (Lib.itoa (n:Int))) h:=by
 rw[Lib.itoa_nonneg];refine acO qxS ?_;simp (disch:=omega) only[qyY,go_sem]
 repeat' first
  |((first|apply qa|apply qc);exact rvk;simp only[go_sem];first|exact qi|apply qf|apply qd|apply qF|skip)
  |with_reducible first|intro _|apply aiA
 all_goals try exact clz
 refine qn (T:=fun s:Nat×Str=>qM 22 [(0,.int .i64 s.1),(3,.str s.2)]) (H:=fun _=>h) (inv:=fun s=>s.1≤1000000000∧Lib.decDigits n=Lib.decDigits s.1++s.2∧s.2.length+s.1≤n+1) (m:=fun s=>s.1) (n,[]) ⟨hn,by simp,by simp⟩ (Wk.temps ?_) ?_
 ·(simp only[go_sem,qh,qe,qb,qg];try (repeat' first|(with_reducible apply aiA)|(apply qf;omega)|(apply qd;rfl)|exact qi))
 rintro⟨m,s⟩ ⟨m1,m2,m3⟩ K hK;simp only at m1 m2 m3 hK
 by_cases hm:9<m
 ·have k1:((9:Int)<m)=True:=eqt om;have e1:(m:Int).tmod 10=((m%10:Nat):Int):=by rw[mdP om];omega
  have e2:(m:Int).tdiv 10=((m/10:Nat):Int):=by rw[dvP om];omega
  have hd:=qoU (m%10) om;unfold dgS at hd;have hb:=qqF (m:=m) om;have eT:(((m%10:Nat):Int)+1).toNat-m%10=1:=by omega
  simp (disch:=omega) only[k1,e1,e2,eT,hd,go_sem]
  repeat' first
   |((first|apply qa|apply qc);exact rvk;simp only[go_sem];first|exact qi|apply qf|apply qd|apply qF|skip)
   |with_reducible first|intro _|apply aiA
  all_goals try exact clz
  refine hK _ _ (m/10,[UInt8.ofNat (48+m%10)]++s) ⟨by simp only;omega,by simp only;rw[m2,hb,List.append_assoc],by simp only[lap,lco,lnl];omega⟩ (by simp only;omega) (Wk.temps ?_)
  (simp only[go_sem,qh,qe,qb,qg];try (repeat' first|(with_reducible apply aiA)|(apply qf;omega)|(apply qd;rfl)|exact qi))
 have k1:((9:Int)<m)=False:=eqf om;have hd:=qoU m om;unfold dgS at hd;have hb:=qjk (m:=m) om;rw[m2,hb];have eT:((m:Int)+1).toNat-m=1:=by omega
 simp (disch:=omega) only[k1,eT,hd,go_sem]
 repeat' first
  |((first|apply qa|apply qc);exact rvk;simp only[go_sem];first|exact qi|apply qf|apply qd|apply qF|skip)
  |with_reducible first|intro _|apply aiA
 all_goals try exact clz
theorem qrn(a:Str)(L:List Str):Lib.joinTail [32] (a::L)= [32]++(a++Lib.joinTail [32] L):=by simp[Lib.joinTail]
theorem qvA(L M:List Str):Lib.joinTail [32] (L++M)=Lib.joinTail [32] L++Lib.joinTail [32] M:=by simp[Lib.joinTail]
theorem qro{L:List Str}(h:L≠ []): [32]++Lib.join L [32]=Lib.joinTail [32] L:=by
 cases L with
 |nil=>exact absurd rfl h
 |cons a L=>rw[Lib.join_cons,qrn]
theorem qvI(x:Co)(S:List Int):nmN x S≠ []:=by
 unfold nmN joN;split
 ·simp
 ·rename_i h;simpa using h
theorem qug(x:Co)(d:List Dc)(w:Wd)(S:List Int):qsH x d w S=w.text++([58]++(Lib.joinTail [32] (nmN x S)++([59,32]++(tlL d w).flatten))):=by
 unfold qsH;rw[←qro (qvI x S)];simp
end RC
end
