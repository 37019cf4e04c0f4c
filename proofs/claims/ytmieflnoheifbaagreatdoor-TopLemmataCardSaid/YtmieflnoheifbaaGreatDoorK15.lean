import Derived.Test.YtmieflnoheifbaaGreatDoorK14
import Derived.Test.YtmieflnoheifbaaGreatDoorK12
import Derived.Test.YtmieflnoheifbaaGreatDoorK3
import Derived.Test.YtmieflnoheifbaaGreatDoorK5
import Derived.Test.YtmieflnoheifbaaGreatDoorK8
import Derived.Test.YtmieflnoheifbaaGreatDoorProg
import Derived.Test.YtmieflnoheifbaaGreatDoorK11
set_option linter.all false
set_option maxHeartbeats 64000000
set_option maxRecDepth 100000
section
open Go Go.Proofs AF HY LN
namespace RC
theorem qEC(b s:Str)(h:we)(hb:b.length<=1000000000)(hs:s.length<=1000000000):ACalls Tryz.prog 70 [.str b,.str s] h (.bool (qCE b s)) h:=by
 have c1:=λh=>t88 b h hb
 have c2:=λh=>t88 s h hs
 unfold qCE;cases g1:jr b with
 |false=>
  rw[g1]at c1;rw[ine (by decide)];refine acO qpw ?_;simp (disch:=omega) only[qxx,go_sem]
  repeat' first|(refine cA (c1 _) flk ?_;simp (disch:=omega) only[go_sem])|exact v8|fail
 |true=>
  rw[g1]at c1;rw[ipo rfl];cases g2:jr s with
  |true=>
   rw[g2]at c2;refine acO qpw ?_;simp (disch:=omega) only[qxx,go_sem]
   repeat' first|((first|refine cA (c1 _) ?_ ?_|refine cA (c2 _) ?_ ?_);exact flk;simp (disch:=omega) only[go_sem])|exact v8|fail
  |false=>
   rw[g2]at c2
   by_cases g3:s= [39]
   ·subst g3;refine acO qpw ?_;simp (disch:=omega) only[qxx,go_sem]
    repeat' first|((first|refine cA (c1 _) ?_ ?_|refine cA (c2 _) ?_ ?_);exact flk;simp (disch:=omega) only[go_sem])|exact v8|fail
   ·have k3:(s= [39])=False:=eqf g3;rw[dqf g3];refine acO qpw ?_;simp (disch:=omega) only[qxx,go_sem]
    repeat' first|((first|refine cA (c1 _) ?_ ?_|refine cA (c2 _) ?_ ?_);exact flk;simp (disch:=omega) only[k3,go_sem])|exact v8|fail
def dpN(x:Co)(l:List Un)(o:Dc):Int:=if qdF x l o=0 then eE x l o else 0
theorem dpP(x:Co)(l:List Un)(o:Dc)(h:we)(hz:qfk x)(hu:qoa l)(hp:ku SG h)(hg:z6 h frmN frmC)(h1:coE x=0)(ht:o.txt.length<=1000):ACalls Tryz.prog 95 [.agg (coC x),jI l,.agg (dcC o)] h (.tup [.int .i64 (dpN x l o),.int .i64 (qdF x l o)]) h:=by
 have ho:=qad h1;unfold dpN;have hE:qdF x l o=(if o.kind<1∨3<o.kind then 8 else if o.txt≠ []∧o.kind≠2 then 1 else if tkB x o=false then 6 else if eE x l o<0 then 20 else cjE o):=rfl
 by_cases g1:o.kind<1
 ·have k1:(o.kind<1)=True:=eqt g1;rw[ipo (.inl g1)]at hE;rw[hE,ine (by decide)];refine acO kY ?_;simp (disch:=omega) only[qcF,coC,dcC,k1,go_sem]
  repeat' first|exact v7|fail
 have k1:(o.kind<1)=False:=eqf g1
 by_cases g2:3<o.kind
 ·have k2:(3<o.kind)=True:=eqt g2;rw[ipo (.inr g2)]at hE;rw[hE,ine (by decide)];refine acO kY ?_;simp (disch:=omega) only[qcF,coC,dcC,k1,k2,go_sem]
  repeat' first|exact v7|fail
 have k2:(3<o.kind)=False:=eqf g2;rw[ine (λe=>e.elim g1 g2)]at hE
 by_cases g3:o.txt≠ []∧o.kind≠2
 ·have k3:(o.txt= [])=False:=eqf g3.1;have k4:(o.kind=2)=False:=eqf g3.2;rw[ipo g3]at hE;rw[hE,ine (by decide)];refine acO kY ?_;simp (disch:=omega) only[qcF,coC,dcC,k1,k2,k3,k4,go_sem]
  repeat' first|exact v7|with_reducible apply aiA|exact clz|fail
 rw[ine g3]at hE;have c1:=λh=>quc x.sig.length (λj=>x.sig.getD j []) o.sig h hz.sg
 have hS:qbF (λj=>decide (o.sig=x.sig.getD j [])) x.sig.length 0=zN x o.sig:=rfl;simp only[hS]at c1
 by_cases g4:o.kind=2
 ·have k4:(o.kind=2)=True:=eqt g4
  by_cases ge:o.txt= []
  ·have k3:(o.txt= [])=True:=eqt ge;have htk:tkB x o=(decide (0<=zN x o.sig)&&(decide (0<=o.tok)&&decide (o.tok<((x.tok.getD (zN x o.sig).toNat []).length:Int)))):=rfl
   by_cases g5:zN x o.sig<0
   ·have k5:(zN x o.sig<0)=True:=eqt g5;rw[dqf om,Bool.false_and]at htk;rw[ipo htk]at hE;rw[hE,ine (by decide)];unfold strs at*;refine acO kY ?_;simp (disch:=omega) only[qcF,coC,dcC,k1,k2,k3,k4,strs,go_sem]
    repeat' first|(refine cA (c1 _) flk ?_;simp (disch:=omega) only[k5,go_sem])|exact v7|with_reducible apply aiA|exact clz|fail
   obtain⟨S,hSn⟩: ∃S:Nat,zN x o.sig=S:=⟨(zN x o.sig).toNat,om⟩
   have hSl:S<x.sig.length:=by
    rcases zT (λj=>decide (o.sig=x.sig.getD j [])) x.sig.length with⟨i,q1,_,_,q4⟩|⟨_,q2⟩
    ·have e:zN x o.sig=i:=q4;omega
    ·have e:zN x o.sig= -1:=q2;omega
   have k5:((S:Int)<0)=False:=wi;rw[hSn,dqt om,Bool.true_and,itn]at htk;simp only[hSn]at c1;have c2:=λl'=>qB2 x S o.tok (h++l') hz (hp.app l') h1 hSl
   by_cases g6:0<=o.tok∧o.tok<((x.tok.getD S []).length:Int)
   case neg=>
    have htk:tkB x o=false:=by rw[htk];simpa using λe=>Int.not_lt.1 λhc=>g6 ⟨e,hc⟩
    rw[ipo htk]at hE;rw[hE,ine (by decide)];simp only[ine g6]at c2;unfold coC at c2;refine acO kY ?_;simp (disch:=omega) only[qcF,coC,dcC,k1,k2,k3,k4,strs,go_sem]
    repeat' first|((first|refine cA (c1 _) ?_ ?_|refine cA (c2 _) ?_ ?_);exact flk;simp (disch:=omega) only[k5,go_sem])|exact v7|(with_reducible first|intro _|apply aiA)|exact clz|fail
   have htk:tkB x o=true:=by rw[htk];simpa using g6
   rw[ine (by rw[htk];decide)]at hE;simp only[ipo g6]at c2;have hpl:eE x l o=fnU l (kW x S o.tok):=by unfold eE;rw[hSn,itn]
   have hcn:=qdi ho hSl g6.1 g6.2;have c3:=λh=>qCw l (kW x S o.tok) h hu.n
   have e1:fnR l (kW x S o.tok)=eE x l o:=by unfold fnR;rw[ine om,hpl]
   have e2:fnE (kW x S o.tok)=0:=by unfold fnE;rw[ine om]
   rw[e1,e2]at c3;unfold coC at c2
   by_cases g7:eE x l o<0
   ·have k7:(eE x l o<0)=True:=eqt g7;rw[ipo g7]at hE;rw[hE,ine (by decide)];refine acO kY ?_;simp (disch:=omega) only[qcF,coC,dcC,k1,k2,k3,k4,strs,go_sem]
    repeat' first|((first|refine cA (c1 _) ?_ ?_|refine cA (c2 _) ?_ ?_|refine cA (c3 _) ?_ ?_);exact flk;simp (disch:=omega) only[k4,k5,k7,go_sem])|exact v7|with_reducible apply aiA|exact clz|fail
   have k7:(eE x l o<0)=False:=eqf g7;rw[ine g7]at hE;unfold cjE at hE;rw[ipo g4]at hE;have c4:=λl'=>qDX o.txt (h++l') ht hg.app
   by_cases g8:qi6 o.txt=0
   case neg=>
    have k8:(qi6 o.txt=0)=False:=eqf g8;rw[ipo g8]at hE;rw[hE,ine g8];refine acO kY ?_;simp (disch:=omega) only[qcF,coC,dcC,k1,k2,k3,k4,strs,go_sem]
    repeat' first|((first|refine cA (c1 _) ?_ ?_|refine cA (c2 _) ?_ ?_|refine cA (c3 _) ?_ ?_|refine cA (c4 _) ?_ ?_);exact flk;simp (disch:=omega) only[k4,k5,k7,k8,strs,go_sem])|exact v7|with_reducible apply aiA|exact clz|fail
   rw[ine (by simpa using g8)]at hE;have g9:zG o.txt=0∧qhb o.txt=0:=by
    unfold qi6 at g8;split at g8
    ·rename_i q;exact absurd g8 q
    ·rename_i q;exact⟨Classical.not_not.1 q,g8⟩
   have hR:qsj o.txt=qnB (qhc o.txt):=by unfold qsj qhc;rw[ipo g8,ipo g9.2];rfl
   simp only[g8,ine (show¬zG o.txt≠0 by simpa using g9.1),<-hR]at c4;cases hL:qsj o.txt with
   |nil=>
    rw[hL]at hE c4;rw[ipo rfl]at hE;rw[hE,ine (by decide)];refine acO kY ?_;simp (disch:=omega) only[qcF,coC,dcC,k1,k2,k3,k4,strs,go_sem]
    repeat' first|((first|refine cA (c1 _) ?_ ?_|refine cA (c2 _) ?_ ?_|refine cA (c3 _) ?_ ?_|refine cA (c4 _) ?_ ?_);exact flk;simp (disch:=omega) only[k4,k5,k7,strs,go_sem])|(apply qa;exact rvk;simp only[go_sem];first|exact qi|skip)|(with_reducible first|intro _|apply aiA)|exact clz|fail
   |cons a r=>
    rw[hL]at hE c4;rw[ine (by simp)]at hE;rw[hE,ipo rfl];have k9:(((a::r).length:Int)=0)=False:=eqf (by simp;omega);refine acO kY ?_;simp (disch:=omega) only[qcF,coC,dcC,k1,k2,k3,k4,strs,go_sem]
    repeat' first|((first|refine cA (c1 _) ?_ ?_|refine cA (c2 _) ?_ ?_|refine cA (c3 _) ?_ ?_|refine cA (c4 _) ?_ ?_);exact flk;simp (disch:=omega) only[k4,k5,k7,strs,go_sem])|(apply qa;exact rvk;simp only[go_sem];first|exact qi|skip)|(with_reducible first|intro _|apply aiA)|exact clz|fail
  ·have k3:(o.txt= [])=False:=eqf ge;have htk:tkB x o=(decide (0<=zN x o.sig)&&(decide (0<=o.tok)&&decide (o.tok<((x.tok.getD (zN x o.sig).toNat []).length:Int)))):=rfl
   by_cases g5:zN x o.sig<0
   ·have k5:(zN x o.sig<0)=True:=eqt g5;rw[dqf om,Bool.false_and]at htk;rw[ipo htk]at hE;rw[hE,ine (by decide)];unfold strs at*;refine acO kY ?_;simp (disch:=omega) only[qcF,coC,dcC,k1,k2,k3,k4,strs,go_sem]
    repeat' first|(refine cA (c1 _) flk ?_;simp (disch:=omega) only[k5,go_sem])|exact v7|with_reducible apply aiA|exact clz|fail
   obtain⟨S,hSn⟩: ∃S:Nat,zN x o.sig=S:=⟨(zN x o.sig).toNat,om⟩
   have hSl:S<x.sig.length:=by
    rcases zT (λj=>decide (o.sig=x.sig.getD j [])) x.sig.length with⟨i,q1,_,_,q4⟩|⟨_,q2⟩
    ·have e:zN x o.sig=i:=q4;omega
    ·have e:zN x o.sig= -1:=q2;omega
   have k5:((S:Int)<0)=False:=wi;rw[hSn,dqt om,Bool.true_and,itn]at htk;simp only[hSn]at c1;have c2:=λl'=>qB2 x S o.tok (h++l') hz (hp.app l') h1 hSl
   by_cases g6:0<=o.tok∧o.tok<((x.tok.getD S []).length:Int)
   case neg=>
    have htk:tkB x o=false:=by rw[htk];simpa using λe=>Int.not_lt.1 λhc=>g6 ⟨e,hc⟩
    rw[ipo htk]at hE;rw[hE,ine (by decide)];simp only[ine g6]at c2;unfold coC at c2;refine acO kY ?_;simp (disch:=omega) only[qcF,coC,dcC,k1,k2,k3,k4,strs,go_sem]
    repeat' first|((first|refine cA (c1 _) ?_ ?_|refine cA (c2 _) ?_ ?_);exact flk;simp (disch:=omega) only[k5,go_sem])|exact v7|(with_reducible first|intro _|apply aiA)|exact clz|fail
   have htk:tkB x o=true:=by rw[htk];simpa using g6
   rw[ine (by rw[htk];decide)]at hE;simp only[ipo g6]at c2;have hpl:eE x l o=fnU l (kW x S o.tok):=by unfold eE;rw[hSn,itn]
   have hcn:=qdi ho hSl g6.1 g6.2;have c3:=λh=>qCw l (kW x S o.tok) h hu.n
   have e1:fnR l (kW x S o.tok)=eE x l o:=by unfold fnR;rw[ine om,hpl]
   have e2:fnE (kW x S o.tok)=0:=by unfold fnE;rw[ine om]
   rw[e1,e2]at c3;unfold coC at c2
   by_cases g7:eE x l o<0
   ·have k7:(eE x l o<0)=True:=eqt g7;rw[ipo g7]at hE;rw[hE,ine (by decide)];refine acO kY ?_;simp (disch:=omega) only[qcF,coC,dcC,k1,k2,k3,k4,strs,go_sem]
    repeat' first|((first|refine cA (c1 _) ?_ ?_|refine cA (c2 _) ?_ ?_|refine cA (c3 _) ?_ ?_);exact flk;simp (disch:=omega) only[k4,k5,k7,go_sem])|exact v7|with_reducible apply aiA|exact clz|fail
   have k7:(eE x l o<0)=False:=eqf g7;rw[ine g7]at hE;unfold cjE at hE;rw[ipo g4]at hE;have c4:=λl'=>qDX o.txt (h++l') ht hg.app
   by_cases g8:qi6 o.txt=0
   case neg=>
    have k8:(qi6 o.txt=0)=False:=eqf g8;rw[ipo g8]at hE;rw[hE,ine g8];refine acO kY ?_;simp (disch:=omega) only[qcF,coC,dcC,k1,k2,k3,k4,strs,go_sem]
    repeat' first|((first|refine cA (c1 _) ?_ ?_|refine cA (c2 _) ?_ ?_|refine cA (c3 _) ?_ ?_|refine cA (c4 _) ?_ ?_);exact flk;simp (disch:=omega) only[k4,k5,k7,k8,strs,go_sem])|exact v7|with_reducible apply aiA|exact clz|fail
   rw[ine (by simpa using g8)]at hE;have g9:zG o.txt=0∧qhb o.txt=0:=by
    unfold qi6 at g8;split at g8
    ·rename_i q;exact absurd g8 q
    ·rename_i q;exact⟨Classical.not_not.1 q,g8⟩
   have hR:qsj o.txt=qnB (qhc o.txt):=by unfold qsj qhc;rw[ipo g8,ipo g9.2];rfl
   simp only[g8,ine (show¬zG o.txt≠0 by simpa using g9.1),<-hR]at c4;cases hL:qsj o.txt with
   |nil=>
    rw[hL]at hE c4;rw[ipo rfl]at hE;rw[hE,ine (by decide)];refine acO kY ?_;simp (disch:=omega) only[qcF,coC,dcC,k1,k2,k3,k4,strs,go_sem]
    repeat' first|((first|refine cA (c1 _) ?_ ?_|refine cA (c2 _) ?_ ?_|refine cA (c3 _) ?_ ?_|refine cA (c4 _) ?_ ?_);exact flk;simp (disch:=omega) only[k4,k5,k7,strs,go_sem])|(apply qa;exact rvk;simp only[go_sem];first|exact qi|skip)|(with_reducible first|intro _|apply aiA)|exact clz|fail
   |cons a r=>
    rw[hL]at hE c4;rw[ine (by simp)]at hE;rw[hE,ipo rfl];have k9:(((a::r).length:Int)=0)=False:=eqf (by simp;omega);refine acO kY ?_;simp (disch:=omega) only[qcF,coC,dcC,k1,k2,k3,k4,strs,go_sem]
    repeat' first|((first|refine cA (c1 _) ?_ ?_|refine cA (c2 _) ?_ ?_|refine cA (c3 _) ?_ ?_|refine cA (c4 _) ?_ ?_);exact flk;simp (disch:=omega) only[k4,k5,k7,strs,go_sem])|(apply qa;exact rvk;simp only[go_sem];first|exact qi|skip)|(with_reducible first|intro _|apply aiA)|exact clz|fail
 ·have k4:(o.kind=2)=False:=eqf g4;have ge:o.txt= []:=Classical.not_not.1 λhc=>g3 ⟨hc,g4⟩
  have k3:(o.txt= [])=True:=eqt ge;have htk:tkB x o=(decide (0<=zN x o.sig)&&(decide (0<=o.tok)&&decide (o.tok<((x.tok.getD (zN x o.sig).toNat []).length:Int)))):=rfl
  by_cases g5:zN x o.sig<0
  ·have k5:(zN x o.sig<0)=True:=eqt g5;rw[dqf om,Bool.false_and]at htk;rw[ipo htk]at hE;rw[hE,ine (by decide)];unfold strs at*;refine acO kY ?_;simp (disch:=omega) only[qcF,coC,dcC,k1,k2,k3,k4,strs,go_sem]
   repeat' first|(refine cA (c1 _) flk ?_;simp (disch:=omega) only[k5,go_sem])|exact v7|with_reducible apply aiA|exact clz|fail
  obtain⟨S,hSn⟩: ∃S:Nat,zN x o.sig=S:=⟨(zN x o.sig).toNat,om⟩
  have hSl:S<x.sig.length:=by
   rcases zT (λj=>decide (o.sig=x.sig.getD j [])) x.sig.length with⟨i,q1,_,_,q4⟩|⟨_,q2⟩
   ·have e:zN x o.sig=i:=q4;omega
   ·have e:zN x o.sig= -1:=q2;omega
  have k5:((S:Int)<0)=False:=wi;rw[hSn,dqt om,Bool.true_and,itn]at htk;simp only[hSn]at c1;have c2:=λl'=>qB2 x S o.tok (h++l') hz (hp.app l') h1 hSl
  by_cases g6:0<=o.tok∧o.tok<((x.tok.getD S []).length:Int)
  case neg=>
   have htk:tkB x o=false:=by rw[htk];simpa using λe=>Int.not_lt.1 λhc=>g6 ⟨e,hc⟩
   rw[ipo htk]at hE;rw[hE,ine (by decide)];simp only[ine g6]at c2;unfold coC at c2;refine acO kY ?_;simp (disch:=omega) only[qcF,coC,dcC,k1,k2,k3,k4,strs,go_sem]
   repeat' first|((first|refine cA (c1 _) ?_ ?_|refine cA (c2 _) ?_ ?_);exact flk;simp (disch:=omega) only[k5,go_sem])|exact v7|(with_reducible first|intro _|apply aiA)|exact clz|fail
  have htk:tkB x o=true:=by rw[htk];simpa using g6
  rw[ine (by rw[htk];decide)]at hE;simp only[ipo g6]at c2;have hpl:eE x l o=fnU l (kW x S o.tok):=by unfold eE;rw[hSn,itn]
  have hcn:=qdi ho hSl g6.1 g6.2;have c3:=λh=>qCw l (kW x S o.tok) h hu.n
  have e1:fnR l (kW x S o.tok)=eE x l o:=by unfold fnR;rw[ine om,hpl]
  have e2:fnE (kW x S o.tok)=0:=by unfold fnE;rw[ine om]
  rw[e1,e2]at c3;unfold coC at c2
  by_cases g7:eE x l o<0
  ·have k7:(eE x l o<0)=True:=eqt g7;rw[ipo g7]at hE;rw[hE,ine (by decide)];refine acO kY ?_;simp (disch:=omega) only[qcF,coC,dcC,k1,k2,k3,k4,strs,go_sem]
   repeat' first|((first|refine cA (c1 _) ?_ ?_|refine cA (c2 _) ?_ ?_|refine cA (c3 _) ?_ ?_);exact flk;simp (disch:=omega) only[k4,k5,k7,go_sem])|exact v7|with_reducible apply aiA|exact clz|fail
  have k7:(eE x l o<0)=False:=eqf g7;rw[ine g7]at hE;unfold cjE at hE;rw[ine g4]at hE;rw[hE,ipo rfl];refine acO kY ?_;simp (disch:=omega) only[qcF,coC,dcC,k1,k2,k3,k4,strs,go_sem]
  repeat' first|((first|refine cA (c1 _) ?_ ?_|refine cA (c2 _) ?_ ?_|refine cA (c3 _) ?_ ?_);exact flk;simp (disch:=omega) only[k4,k5,k7,go_sem])|exact v7|with_reducible apply aiA|exact clz|fail
theorem qtb(x:Co)(l:List Un)(h:we)(hz:qfk x)(hu:qoa l)(hp:ku SG h):ACalls Tryz.prog 66 [.agg (coC x),jI l] h (.int .i64 (vaE x l)) h:=by
 have c1:=λl'=>coP x (h++l') hz (hp.app l')
 have c2:=λl'=>vaP x l (h++l') hz hu (hp.app l')
 have hE:vaE x l=(if coE x≠0 then 1 else if rgB x l=false then 20 else 0):=rfl
 by_cases g:coE x=0
 case neg=>
  have k1:(coE x=0)=False:=eqf g;rw[ipo g]at hE;rw[hE];unfold coC at c1;refine acO qtP ?_;simp (disch:=omega) only[qBs,coC,go_sem]
  repeat' first|(refine cA (c1 _) flk ?_;simp (disch:=omega) only[k1,go_sem])|exact v7|fail
 rw[ine (by simpa using g)]at hE;simp only[g]at c1
 by_cases g2:rgB x l=false
 ·rw[ipo g2]at hE;rw[hE];simp only[hE]at c2;unfold coC at c1 c2;refine acO qtP ?_;simp (disch:=omega) only[qBs,coC,go_sem]
  repeat' first|((first|refine cA (c1 _) ?_ ?_|refine cA (c2 _) ?_ ?_);exact flk;simp (disch:=omega) only[go_sem])|(apply qa;exact rvk;simp only[go_sem];first|exact qi|apply qe)|(with_reducible first|intro _|apply aiA)|exact clz|fail
 ·rw[ine g2]at hE;rw[hE];simp only[hE]at c2;unfold coC at c1 c2;refine acO qtP ?_;simp (disch:=omega) only[qBs,coC,go_sem]
  repeat' first|((first|refine cA (c1 _) ?_ ?_|refine cA (c2 _) ?_ ?_);exact flk;simp (disch:=omega) only[go_sem])|exact v7|fail
def plG(x:Co)(l:List Un)(d:List Dc)(n:Nat):List Int:=(d.take n).map (eE x l)
def qz0(x:Co)(l:List Un)(d:List Dc):List Int:=if qbt x l d=0 then plG x l d d.length else []
theorem qCU(x:Co)(l:List Un)(d:List Dc)(h:we)(hz:qfk x)(hu:qoa l)(hp:ku SG h)(hg:z6 h frmN frmC)(h1:coE x=0)(hd:d.length<=1000000)(ht: ∀o∈d,o.txt.length<=1000):ACalls Tryz.prog 67 [.agg (coC x),jI l,qaH d] h (.tup [qP (qz0 x l d),.int .i64 (qbt x l d)]) h:=by
 unfold qz0
 by_cases g:256<d.length
 ·have k1:((256:Int)<d.length)=True:=wh;have hE:qbt x l d=4:=by unfold qbt;rw[ipo g]
  rw[hE,ine (by decide)];refine acO qzd ?_;simp (disch:=omega) only[qBO,coC,qaH,k1,go_sem]
  repeat' first|(apply qa;exact rvk;simp only[go_sem])
  exact VLe.tup ⟨zB,qi,trivial⟩
 have k1:((256:Int)<d.length)=False:=wi;have hE:qbt x l d=qaM (λi=>qdF x l (d.getD i default)) 0 d.length:=by unfold qbt;rw[ine g]
 rw[hE];refine acO qzd ?_;simp (disch:=omega) only[qBO,coC,qaH,k1,go_sem];refine qt (T:=λs:Nat×Nat×AObj×AObj×AObj=>zg 38 [(1,jI l),(3,.op h.length 1 0),(16,qaH d),(17,.int .i64 d.length),(18,.int .i64 s.1),(8,.osl (h.length+2) s.2.1 1 0 s.1)])
  (H:=λs=>h++ [.mem 1 26 (coC x),.emp 1,zw s.2.1 3 (qU (plG x l d s.1)),s.2.2.1,s.2.2.2.1,s.2.2.2.2])
  (inv:=λs=>s.1<=d.length∧(∀j,j<s.1->qdF x l (d.getD j default)=0)∧qH [s.2.2.1] 0=true∧qH [s.2.2.2.1] 0=true∧qH [s.2.2.2.2] 0=true) (m:=λs=>d.length-s.1) (0,1,.emp 0,.emp 0,.emp 0) ⟨nzl _,λj hj=>absurd hj (nnz j),rfl,rfl,rfl⟩ (Wk.temps ?_) ?_
 ·(simp only[qaH,go_sem,qh,qf,qb,qg];try exact wa)
 rintro⟨i,v,O1,O2,O3⟩ ⟨i1,i0,i2,i3,i4⟩ K hK;simp only at i0 i1 i2 i3 i4 hK;have i2': ∀m,qH (O1::m) 0=true:=λ_=>i2
 have i3': ∀m,qH (O2::m) 0=true:=λ_=>i3
 have i4': ∀m,qH (O3::m) 0=true:=λ_=>i4
 have eL:(plG x l d i).length=i:=by unfold plG;rw[List.length_map,List.length_take];omega
 by_cases hi:i<d.length
 ·have k2:((i:Int)<d.length)=True:=wh;obtain⟨o,ho⟩:=wc (d.getD i default)
  have eo:=ho.symm;have hom:o∈d:=by rw[ho];exact jk hi
  have hS:plG x l d (i+1)=plG x l d i++ [eE x l o]:=by
   unfold plG;rw[List.take_add_one,zH hi,List.map_append,ho,gdqA,zH hi];rfl
  have c1:=λl'=>dpP x l o (h++l') hz hu (hp.app l') hg.app h1 (ht o hom)
  by_cases g3:qdF x l o=0
  case neg=>
   have k3:(qdF x l o=0)=False:=eqf g3;have hf:qaM (λi=>qdF x l (d.getD i default)) 0 d.length=qdF x l o:=by
    rw[qbA hi i0 (by rw[eo];exact g3),eo]
   rw[hf,ine g3];unfold coC dcC at c1;simp (disch:=omega) only[coC,qaH,dcC,k2,eo,i2',go_sem]
   repeat' first|(refine cA (c1 _) flk ?_;simp (disch:=omega) only[k3,i3',go_sem])|(apply qa;exact rvk;simp only[go_sem])|with_reducible apply aiA|exact clz|fail
   exact VLe.tup ⟨zB,qi,trivial⟩
  unfold dpN at c1;rw[g3]at c1;simp only[if_true]at c1;obtain⟨L,hL⟩:=wc (plG x l d i)
  rw[<-hL]at hS eL ⊢;have eC:=jL L;have eTk:List.take i (qU L)=qU L:=ltl om;unfold coC dcC at c1;simp (disch:=omega) only[coC,qaH,dcC,k2,eo,i2',go_sem]
  repeat' first|(refine cA (c1 _) flk ?_;simp (disch:=omega) only[i3',eC,eL,eTk,Nat.mul_one,go_sem])|with_reducible apply aiA|exact clz|fail
  rw[show qU L++ [AV.int IntKind.i64 (eE x l o)]=qU (L++ [eE x l o]) by simp[qU],<-hS];refine hK _ _ (i+1,v+1,.mem (qo (some O1)+1) 65 (dcC o),.mem (qo (some O2)+1) 3 [.int .i64 (eE x l o)],O3) ⟨hi,λj hj=> ?_,rfl,rfl,i4⟩ (by simp only;omega) ?_
  ·by_cases e:j=i
   ·rw[e,eo];exact g3
   ·exact i0 j om
  refine Wk.temps ?_
  (simp only[qaH,dcC,go_sem,qh,qf,qb,qg];try exact wa)
 have k2:((i:Int)<d.length)=False:=wi;obtain rfl:i=d.length:=by omega
 have hf:qaM (λi=>qdF x l (d.getD i default)) 0 d.length=0:=kK i0;rw[hf,ipo rfl];simp (disch:=omega) only[k2,go_sem]
 repeat' first|(apply qa;exact rvk;simp only[go_sem])
 exact VLe.tup ⟨qqO (λ_=>rfl) eL.symm,qi,trivial⟩
def pcC(p:Pc):wg:=tkC p.t++ [.int .i64 p.c]
def spX(x:Co)(s f d:Nat):List wg:=(spk x s f d).map λp=> [.agg (pcC p)]
theorem qAx(x:Co)(f t s:Nat)(h:we):ACalls Tryz.prog 72 [.agg (coC x),.int .i64 (f:Int),.int .i64 (t:Int),.int .i64 (s:Int)] h (.fn (.func 146) [] [.ip [.int .i64 (f:Int)],.ip [.int .i64 (t:Int)],.ip (coC x),.ip [.int .i64 (s:Int)]]) h:=by
 unfold coC;refine acO qCt ?_;simp (disch:=omega) only[qDF,go_sem]
 repeat' first|exact v7|fail
theorem qnb(x:Co)(s f d:Nat):(spX x s f d).length=(spk x s f d).length:=by unfold spX;rw[List.length_map]
theorem qvj(x:Co)(s f:Nat): ∀d e,d<=e-> ∃r,spk x s f e=spk x s f d++r:=by
 intro d e h
 induction e with
 |zero=>
  obtain rfl:d=0:=by omega
  exact⟨[],by simp⟩
 |succ e ih=>
  by_cases g:d=e+1
  ·subst g;exact⟨[],by simp⟩
  ·obtain⟨r,hr⟩:=ih om;refine⟨r++(if pcB x s (f+e)=true then [pcT x s (f+e)] else []),?_⟩
   conv=>lhs;unfold spk
   rw[hr,List.append_assoc]
theorem qAw{x:Co}{s f k d:Nat}(hk:k<d)(hb:pcB x s (f+k)=true): ∃g:(spk x s f k).length<(spX x s f d).length,(spX x s f d)[(spk x s f k).length]= [.agg (pcC (pcT x s (f+k)))]∧(spk x s f (k+1)).length=(spk x s f k).length+1:=by
 have e1:spk x s f (k+1)=spk x s f k++ [pcT x s (f+k)]:=by
  conv=>lhs;unfold spk
  rw[ipo hb]
 obtain⟨r,hr⟩:=qvj x s f (k+1) d hk;refine⟨by rw[qnb,hr,e1];simp,?_,by rw[e1];simp⟩;unfold spX;simp only[List.getElem_map,hr,e1];rw[List.getElem_append_left (by simp),List.getElem_append_right (nlr _)];simp
structure SpS where
 k:Nat
 hh:we
theorem itS(x:Co)(s f t:Nat)(hz:qfk x)(ho:CoOk x)(hs:s<x.sig.length)(ht:t<=x.col.length)(ft:f<=t):qi8 Tryz.prog 146 [.ip [.int .i64 (f:Int)],.ip [.int .i64 (t:Int)],.ip (coC x),.ip [.int .i64 (s:Int)]] (spX x s f (t-f)):=by
 intro h ts LI S E hS hE body start hts;have hsg:=hz.sg;have hcl:=hz.cl;have htn:=ho.tn;have htl:=hz.tl s;have q5:(0<=(s:Int))=True:=wh;have q6:((s:Int)<x.tok.length)=True:=wh;refine acQ qx8 ?_;simp (disch:=omega) only[qwz,coC,go_sem]
 repeat' first|with_reducible apply aiA|exact clz|fail
 refine qt (T:=λi:SpS=>zg 39 [(0,.yld h.length),(2,.ip [.int .i64 (t:Int)]),(3,.ip (coC x)),(4,.ip [.int .i64 (s:Int)]),(6,.int .i64 ((f+i.k:Nat):Int))]) (H:=λi=>i.hh++ [.lp .ready ts LI])
  (inv:=λi=>f+i.k<=t∧S (spk x s f i.k).length i.hh) (m:=λi=>t-f-i.k) ⟨0,h⟩ ⟨by simp only;omega,start⟩ (Wk.temps ?_) ?_
 ·(simp only[coC,go_sem,qh,qf,qb,qg];try exact wa)
 rintro⟨k,hh⟩ ⟨i1,i4⟩ K hK;simp only at i1 i4 hK;obtain⟨hlen,hlow⟩:=hS _ _ i4;have hb:(h++ [AObj.lp LS.ready ts LI]).length=(hh++ [AObj.lp LS.ready ts LI]).length:=by simp[hlen]
 by_cases hi:f+k<t
 ·have q0:(((f+k:Nat):Int)<t)=True:=wh;have q1:(0<=((f+k:Nat):Int))=True:=wh;have q2:(((f+k:Nat):Int)<x.col.length)=True:=wh;obtain⟨c,hcx⟩:=wc (x.col.getD (f+k) [])
  have ec:=hcx.symm;have hcl2:=ho.cl (f+k) om;have hce:=ho.ce (f+k) om s hs;rw[ec]at hcl2 hce;have q3:((s:Int)<c.length)=True:=wh;have hpb:pcB x s (f+k)=decide (0<=c.getD s 0):=by unfold pcB;rw[ec]
  by_cases g:0<=c.getD s 0
  ·obtain⟨N,hN⟩: ∃N:Nat,c.getD s 0=N:=⟨(c.getD s 0).toNat,om⟩
   have hNt:N<(x.tok.getD s []).length:=by
    rcases hce with e|⟨_,e⟩
    ·omega
    ·rw[hN]at e;omega
   have q4:(0<=(N:Int))=True:=wh;obtain⟨T,hT⟩:=wc (x.tok.getD s [])
   have eT:=hT.symm;rw[eT]at hNt;have q7:((N:Int)<T.length)=True:=wh;obtain⟨hdl,hxx,hln⟩:=qAw (x:=x) (s:=s) (f:=f) (k:=k) (d:=t-f) om (by rw[hpb,dqt g]);have hpc:pcT x s (f+k)=⟨T.getD N default,((f+k:Nat):Int)⟩:=by
    unfold pcT;rw[ec,eT,hN,itn]
   have hb':=body _ hh [] hdl i4;rw[hxx,hpc]at hb';unfold pcC tkC at hb';simp only[lca,lna]at hb';simp (disch:=omega) only[coC,qw,qP,qp,ja,tkC,q0,q1,q2,q3,q4,q5,q6,q7,ec,hN,eT,go_sem]
   repeat' first|with_reducible apply aiA|exact clz|fail
   ·exact⟨.ready,ts,LI,jW hlen⟩
   ·refine jD.mono ?_ hb';rintro v h' ⟨hh',⟨rfl,hn',rfl⟩|⟨st,rfl,hs',rfl⟩⟩
    ·simp (disch:=omega) only[go_sem];refine hK _ _ ⟨k+1,hh'⟩ ⟨by simp only;omega,by simp only;rw[hln];exact hn'⟩ (by simp only;omega) (Wk.temps ?_)
     (simp only[coC,go_sem,qh,qf,qb,qg];try exact wa)
    ·simp (disch:=omega) only[go_sem];obtain⟨r1,r2⟩:=(hE _ _ hs').ret (L:=LI) st hts;exact zQ trivial r1 r2 ⟨_,.inr ⟨st,hs',rfl⟩⟩ (qi)
  ·have q4:(0<=c.getD s 0)=False:=eqf g;have e1:spk x s f (k+1)=spk x s f k:=by
    conv=>lhs;unfold spk
    rw[hpb,dqf g,ine (by decide),lan]
   simp (disch:=omega) only[coC,qw,qP,q0,q1,q2,q3,q4,q5,ec,go_sem]
   repeat' first|with_reducible apply aiA|exact clz|fail
   refine hK _ _ ⟨k+1,hh⟩ ⟨by simp only;omega,by rw[e1];exact i4⟩ (by simp only;omega) (Wk.temps ?_)
   (simp only[coC,go_sem,qh,qf,qb,qg];try exact wa)
 ·have q0:(((f+k:Nat):Int)<t)=False:=wi;have hk:k=t-f:=by omega
  rw[hk]at i4;simp (disch:=omega) only[coC,qw,q0,go_sem]
  repeat' first|with_reducible apply aiA|exact clz|fail
  obtain⟨r1,r2⟩:=(hS _ _ i4).ret (L:=LI) .ready hts;exact zQ trivial r1 r2 ⟨hh,.inl ⟨by rw[qnb];exact i4,rfl⟩⟩ (qi)
end RC
end
section
open Go Go.Proofs AF
def qpJ:List Nat:= []
def qwS:C:=
 (vS [O1 2 (.box 0 140) 0,ON 4 (.nilo 1 7 131) []] (((C.wk.seq (vW [MV 6 1])).seq (C.block 0 (C.range (.t 6) [7] (vW [⟨some 5,none,.alloc 2 131 [.str [],.str [],.str [],i6 0,i6
 0,.str [],i6 0],[]⟩,ST 7 5 7]) (C.block 1 (vW [LD 8 2,O1 9 (.load (some 7)) 5,⟨some 10,none,.bslc 3 7 1 131 [.str [],.str [],.str [],i6 0,i6 0,.str [],i6 0] [(0,7)],[.t 9]⟩,O2
 11 (.app 4 7 131 88) 8 10,ST 1 2 11]))))).seq (vV [LD 12 2,MV 4 12])))
theorem qys:qK Tryz.prog 223 13 5 [RV.tmp 4] qwS:=fi Tryz.f223 [2,4,5,10,11] qpJ [1]
end
section
open Go Go.Proofs AF HY LN
namespace RC
def U5(L:List Pc):wg:=L.flatMap pcC
instance:Inhabited Pc:=⟨⟨default,0⟩⟩
def qea(L:List Pc):AV:= .sl L.length λi=>pcC (L.getD i default)
theorem qk1(l:List Pc):(qea l).flag=true:=rfl
theorem qiI(l:List Pc):(qea l).strip=qea l:=rfl
theorem qqC{fz:Nat->Bool}{h:we}{n:Nat}(l:List Pc):rei fz h (n+1) (qea l)=qea l:=rfl
theorem qpB{fz:Nat->Bool}{h:we}{n:Nat}(l:List Pc):frz fz h (n+1) (qea l)=qea l:=rfl
attribute [go_sem] qk1 qiI qqC qpB
theorem qme(p:Pc):(pcC p).length=7:=rfl
theorem qdD(L:List Pc):(U5 L).length=L.length*7:=by
 unfold U5
 induction L with
 |nil=>rfl
 |cons a L ih=>rw[List.flatMap_cons,lap,ih,lco,qme];omega
theorem qaq(A B:List Pc):U5 (A++B)=U5 A++U5 B:=by simp[U5]
theorem qar(a:Pc):U5 [a]=pcC a:=by simp[U5]
theorem qmf(L:List Pc): ∀i,(U5 L).drop (i*7)=U5 (L.drop i):=by
 induction L with
 |nil=>intro i;simp[U5]
 |cons a L ih=>
  intro i;cases i with
  |zero=>simp
  |succ i=>
   rw[show U5 (a::L)=pcC a++U5 L from rfl,show (a::L).drop (i+1)=L.drop i from rfl,<-ih i];rw[show (i+1)*7=(pcC a).length+i*7 by rw[qme];omega,List.drop_append,List.drop_eq_nil_of_le om,lna,Nat.add_sub_cancel_left]
theorem qqk{L:List Pc}{i:Nat}(hi:i<L.length):((U5 L).drop (i*7)).take 7=pcC (L.getD i default):=by
 rw[qmf,List.drop_eq_getElem_cons hi,gdqA,zH hi];rfl
theorem qql(L:List Pc)(n:Nat): ∀c∈U5 L,qS n c=true:=by
 intro c hc;unfold U5 at hc;obtain⟨x,_,hx⟩:=List.mem_flatMap.1 hc;unfold pcC tkC at hx;simp only[lca,lna,List.mem_cons,List.not_mem_nil,or_false]at hx;rcases hx with rfl|rfl|rfl|rfl|rfl|rfl|rfl<;>rfl
theorem qg1{v n:Nat}{L:List Pc}{ty:TypeId}{fz:Nat->Bool}{h:we}{d:Nat}(hn:n=L.length):VLe (qg0 (some (zw v ty (U5 L))) v 7 0 n (rei fz h (d+1))) (qea L):=by
 subst hn;unfold zw;split
 ·rename_i e
  have:L= []:=by
   cases L with
   |nil=>rfl
   |cons a r=>exact absurd e (by simp[U5,pcC,tkC])
  subst this;rw[slOf_emp,ipo rfl];exact zB
 ·rw[slOf_mem,ipo ⟨rfl,by rw[qdD];omega⟩];refine VLe.sl_eq rfl (λi hi=> ?_);simp only[Nat.zero_add];rw[qqk hi];rfl
theorem qD8(f:FuncId)(A B C D:wg)(L:List Pc)(h:we)(hf:qi8 Tryz.prog f [.ip A,.ip B,.ip C,.ip D] (L.map λp=> [.agg (pcC p)]))(hL:L.length<=1000000000):ACalls Tryz.prog 223 [.nl,.fn (.func f) [] [.ip A,.ip B,.ip C,.ip D]] h (qea L) h:=by
 refine acO qys ?_;simp (disch:=omega) only[qwS,go_sem];refine⟨_,_,Wk.ownNil (j:=h.length) (i:=0) (k:=h.length+4) (v:=1) (ty:=140) (cs:= [.nl]) (ve:=0) (sz:=7) ?m1 rfl ?m2,?_⟩
 case m1=>simp only[go_sem]
 case m2=>simp only[go_sem]
 simp (disch:=omega) only[List.set_cons_zero,go_sem];have hxl:(L.map λp=> [AV.agg (pcC p)]).length=L.length:=List.length_map ..;have hLow: ∀(i n:Nat) O1 O2,(∀n,lowO n O1)->(∀n,lowO n O2)->LowI (h++ [.mem 1 140 [.osl (h.length+4) 0 7 0 0],.emp 1,.emp 0,.emp 0,.emp 0]) (h++ [.mem 1 140 [.osl (h.length+4) i 7 0 n],.emp 1,O1,O2,zw i 131 (U5 (L.take i))]):=λi n O1 O2 l1 l2=>by
  refine⟨by simp,λo ho=> ?_⟩;rcases List.mem_append.1 ho with h1|h1
  ·exact .inl (List.mem_append_left _ h1)
  ·simp only[List.mem_cons,List.not_mem_nil,or_false]at h1;have hb: ∀n,lowO n (zw i 131 (U5 (L.take i))):=λn=>jl (qql _ n)
   rcases h1 with rfl|rfl|rfl|rfl|rfl
   ·right;refine⟨λc hc=> ?_,λc hc=> ?_⟩<;>
    ·rw[List.mem_singleton]at hc;subst hc;simp[qS]
     try omega
   ·left;simp
   ·right;exact⟨l1 _,l1 _⟩
   ·right;exact⟨l2 _,l2 _⟩
   ·right;exact⟨hb _,hb _⟩
 refine qY hf (λa ha=> ?_)
  (S:=λi hh=> ∃O1 O2,qH [O1] 0=true∧qH [O2] 0=true∧(∀n,lowO n O1)∧(∀n,lowO n O2)∧hh=h++ [.mem 1 140 [.osl (h.length+4) i 7 0 i],.emp 1,O1,O2,zw i 131 (U5 (L.take i))]) (E:=λ_ _=>False) ?_ ?_ ?_ ?_ ?_ ?_ ?_
 ·obtain⟨c,_,rfl⟩:=List.mem_map.1 ha;rfl
 ·rintro i hh ⟨O1,O2,_,_,l1,l2,rfl⟩;exact hLow _ _ _ _ l1 l2
 ·intro s hh hf;exact hf.elim
 ·exact⟨.emp 0,.emp 0,rfl,rfl,λ_=>trivial,λ_=>trivial,rfl⟩
 ·simp[qS,qS.lowVs]
  try omega
 ·rintro i hh tl LI TS hi ⟨O1,O2,s1,s2,l1,l2,rfl⟩ hlen K K2 hK hN hR' hX;have hi':i<L.length:=by rw[hxl]at hi;exact hi
  rw[List.getElem_map];have s1': ∀m,qH (O1::m) 0=true:=λ_=>s1
  have s2': ∀m,qH (O2::m) 0=true:=λ_=>s2
  have hS:L.take (i+1)=L.take i++ [L.getD i default]:=by
   rw[List.take_add_one,zH hi',gdqA,zH hi'];rfl
  have eG:L[i]=L.getD i default:=by rw[gdqA,zH hi'];rfl
  rw[eG];obtain⟨p,hp⟩:=wc (L.getD i default)
  rw[<-hp]at hS ⊢;obtain⟨M,hM⟩:=wc (L.take i)
  have eM:M.length=i:=by rw[hM,List.length_take];omega
  rw[<-hM]at hS ⊢;have eC:=qdD M;have eTk:List.take (i*7) (U5 M)=U5 M:=ltl om;simp only[jV,List.append_assoc,lca,lna];simp (disch:=omega) only[s1',pcC,tkC,go_sem];refine hK _ _ (h++ [.mem 1 140 [.osl (h.length+4) i 7 0 i],.emp 1,.mem (qo (some O1)+1) 131 (pcC p),O2,zw i 131 (U5 M)]) ?_ ?_ ?_
  ·simp[pcC,tkC]
  ·simp
  ·simp only[List.append_assoc,lca,lna];simp (disch:=omega) only[s2',pcC,tkC,eC,eTk,eM,go_sem]
   repeat' first|with_reducible apply aiA|exact clz|fail
   have eA:U5 M++ [AV.str p.t.text,AV.str p.t.norm,AV.str p.t.page,.int .i64 p.t.line,.int .i64 p.t.flags,.str p.t.name,.int .i64 p.c]=U5 (M++ [p]):=by rw[qaq,qar];rfl
   refine hN _ _ (h++ [.mem 1 140 [.osl (h.length+4) (i+1) 7 0 (i+1)],.emp 1,.mem (qo (some O1)+1) 131 (pcC p),.mem (qo (some O2)+1) 131 (pcC p),zw (i+1) 131 (U5 (M++ [p]))]) ?_ ?_ ⟨_,_,rfl,rfl,?_,?_,by rw[hS]⟩
   ·rw[<-eA];simp[pcC,tkC];exact nlr _
   ·simp
   ·intro n c hc;simp[pcC,tkC]at hc;rcases hc with rfl|rfl|rfl|rfl|rfl|rfl|rfl<;>rfl
   ·intro n c hc;simp[pcC,tkC]at hc;rcases hc with rfl|rfl|rfl|rfl|rfl|rfl|rfl<;>rfl
 ·rintro hh ⟨O1,O2,s1,s2,l1,l2,rfl⟩;rw[hxl,List.take_length];simp (disch:=omega) only[go_sem]
  repeat' first|(apply qa;exact rvk;simp only[go_sem])|with_reducible apply aiA|exact clz|fail
  exact qg1 rfl
 ·intro e hh hf;exact hf.elim
theorem qEj(f:FuncId)(A B C D:wg)(L:List Pc)(h:we)(hf:qi8 Tryz.prog f [.ip A,.ip B,.ip C,.ip D] (L.map λp=> [.agg (pcC p)]))(hL:L.length<=1000000000):ACalls Tryz.prog 148 [.fn (.func f) [] [.ip A,.ip B,.ip C,.ip D]] h (qea L) h:=by
 have c1:=λh=>qD8 f A B C D L h hf hL
 refine acO qya ?_;simp (disch:=omega) only[qwB,go_sem]
 repeat' first|(refine cA (c1 _) flk ?_;simp (disch:=omega) only[go_sem])|exact v7|fail
theorem qEG(h:we):ACalls Tryz.prog 73 [] h (.agg [.nilfn,.fn (.func 147) [] [],.fn (.func 149) [] [],.fn (.func 151) [] []]) h:=by
 refine acO qCu ?_;simp (disch:=omega) only[qDG,go_sem]
 repeat' first|exact v7|fail
theorem qEF(x:Co)(u:Un)(o:Dc)(h:we):ACalls Tryz.prog 151 [.agg (coC x),.agg (unC u),.agg (dcC o)] h (qea []) h:=by
 refine acO qyd ?_;simp (disch:=omega) only[qwE,coC,unC,dcC,go_sem]
 repeat' first|(apply qa;exact rvk;simp only[go_sem])
 exact zB
theorem qED(x:Co)(u:Un)(o:Dc)(s f t:Nat)(h:we)(hz:qfk x)(ho:CoOk x)(hx:zN x o.sig=s)(hs:s<x.sig.length)(hf:u.frm=f)(hu:u.to=t)(ht:t<=x.col.length)(ft:f<=t):ACalls Tryz.prog 147 [.agg (coC x),.agg (unC u),.agg (dcC o)] h (qea (spk x s f (t-f))) h:=by
 have c1:=λh=>quc x.sig.length (λj=>x.sig.getD j []) o.sig h hz.sg
 have hS:qbF (λj=>decide (o.sig=x.sig.getD j [])) x.sig.length 0=zN x o.sig:=rfl;simp only[hS,hx]at c1;have c2:=λh=>qAx x f t s h
 have hcl:=hz.cl;have c3:=λh=>qEj 146 [.int .i64 (f:Int)] [.int .i64 (t:Int)] (coC x) [.int .i64 (s:Int)] (spk x s f (t-f)) h (itS x s f t hz ho hs ht ft) (Nat.le_trans (qcg x s f (t-f)) om)
 unfold coC at c2 c3;refine acO qx9 ?_;simp (disch:=omega) only[qwA,coC,unC,dcC,strs,hf,hu,go_sem]
 repeat' first|((first|refine cA (c1 _) ?_ ?_|refine cA (c2 _) ?_ ?_|refine cA (c3 _) ?_ ?_);exact flk;simp (disch:=omega) only[strs,go_sem])|exact v7|fail
 done
def cjP(L:List Tk)(f:Int):List Pc:=L.map λt=>⟨t,f⟩
theorem qtc(L:List Tk)(f:Int):(cjP L f).length=L.length:=List.length_map ..
theorem qny{s:Str}{t:Tk}(h:t∈qed s):t.name= []∧(t.flags=0∨t.flags=16∨t.flags=8∨t.flags=24):=by
 obtain⟨a,⟨e,g⟩,rfl,_⟩:=qf6 s h;refine⟨by rw[e];rfl,?_⟩;show a.flags=0∨a.flags=16∨a.flags=8∨a.flags=24;rcases g with⟨g|g,_⟩|⟨g|g,_⟩
 ·exact .inl g
 ·exact .inr (.inl g)
 ·exact .inr (.inr (.inl g))
 ·exact .inr (.inr (.inr g))
theorem qEE(x:Co)(u:Un)(o:Dc)(h:we)(hl:o.txt.length<=1000)(hs:o.txt≠ [])(hc:zG o.txt=0)(he:qhb o.txt=0)(hg:z6 h frmN frmC):ACalls Tryz.prog 149 [.agg (coC x),.agg (unC u),.agg (dcC o)] h (qea (cjP (qed o.txt) u.frm)) h:=by
 have c1:=λl=>qEh o.txt (h++l) hl hs hc hg.app
 have hT:qhc o.txt=qed o.txt:=by unfold qhc;rw[ipo he]
 rw[hT]at c1;have hfl:=λt=> @qny o.txt t
 have hTl:=qdZ o.txt;obtain⟨T,hTe⟩:=wc (qed o.txt)
 rw[<-hTe]at c1 hTl hfl ⊢;have zu: ∀g l,valL g .len [ja l]= .int .i64 l.length:=λ_ _=>rfl
 have zv: ∀g l,okL g .len [ja l]=True:=λ_ _=>eqt trivial
 refine acO qyb ?_;simp (disch:=omega) only[qwC,coC,unC,dcC,go_sem]
 repeat' first|(refine cA (c1 _) flk ?_;simp (disch:=omega) only[zu,zv,go_sem])|with_reducible apply aiA|exact clz|fail
 refine qt (T:=λs:Nat×Nat×AObj×AObj=>zg 32 [(4,.op (h.length+1) 1 0),(12,ja T),(13,.int .i64 T.length),(14,.int .i64 s.1),(7,.osl (h.length+4) s.2.1 7 0 s.1)])
  (H:=λs=>h++ [.mem 1 26 (coC x),.mem 1 39 (unC u),.mem 1 65 (dcC o),.emp 1,zw s.2.1 131 (U5 (cjP (T.take s.1) u.frm)),s.2.2.1,s.2.2.2,.emp 0])
  (inv:=λs=>s.1<=T.length∧qH [s.2.2.1] 0=true∧qH [s.2.2.2] 0=true) (m:=λs=>T.length-s.1) (0,1,.emp 0,.emp 0) ⟨nzl _,rfl,rfl⟩ (Wk.temps ?_) ?_
 ·(simp only[ja,go_sem,qh,qf,qb,qg];try exact wa)
 rintro⟨i,v,O1,O2⟩ ⟨i1,i2,i3⟩ K hK;simp only at i1 i2 i3 hK;have i2': ∀m,qH (O1::m) 0=true:=λ_=>i2
 have i3': ∀m,qH (O2::m) 0=true:=λ_=>i3
 have eL:(cjP (T.take i) u.frm).length=i:=by rw[qtc,List.length_take];omega
 by_cases hi:i<T.length
 ·have k2:((i:Int)<T.length)=True:=wh;obtain⟨t,ht⟩:=wc (T.getD i default)
  have et:=ht.symm;obtain⟨hn,hf⟩:=hfl t (by rw[ht];exact jk hi);have hS:cjP (T.take (i+1)) u.frm=cjP (T.take i) u.frm++ [⟨t,u.frm⟩]:=by
   unfold cjP;rw[List.take_add_one,zH hi,List.map_append,ht,gdqA,zH hi];rfl
  obtain⟨L,hL⟩:=wc (cjP (T.take i) u.frm)
  rw[<-hL]at hS eL ⊢;have eC:=qdD L;have eTk:List.take (i*7) (U5 L)=U5 L:=ltl om;obtain⟨tx,nm,pg,ln,fl,na⟩:=t;simp only at hn hf;subst hn;rcases hf with rfl|rfl|rfl|rfl
  all_goals
   simp (disch:=omega) only[coC,unC,dcC,ja,tkC,k2,et,i2',i3',eC,eL,eTk,go_sem]
   repeat' first|with_reducible apply aiA|exact clz|fail
  ·refine hK _ _ (i+1,v+1,.mem (qo (some O1)+1) 119 (tkC ⟨tx,nm,pg,ln,0,[]⟩),.mem (qo (some O2)+1) 131 (pcC ⟨⟨tx,nm,pg,ln,0,[]⟩,u.frm⟩)) ⟨hi,rfl,rfl⟩ (by simp only;omega) ?_;simp only[hS,pcC,tkC,qaq,qar,lca,lna];refine Wk.temps ?_
   (simp only[ja,tkC,go_sem,qh,qf,qb,qg];try exact wa)
  ·refine hK _ _ (i+1,v+1,.mem (qo (some O1)+1) 119 (tkC ⟨tx,nm,pg,ln,16,[]⟩),.mem (qo (some O2)+1) 131 (pcC ⟨⟨tx,nm,pg,ln,16,[]⟩,u.frm⟩)) ⟨hi,rfl,rfl⟩ (by simp only;omega) ?_;simp only[hS,pcC,tkC,qaq,qar,lca,lna];refine Wk.temps ?_
   (simp only[ja,tkC,go_sem,qh,qf,qb,qg];try exact wa)
  ·refine hK _ _ (i+1,v+1,.mem (qo (some O1)+1) 119 (tkC ⟨tx,nm,pg,ln,8,[]⟩),.mem (qo (some O2)+1) 131 (pcC ⟨⟨tx,nm,pg,ln,8,[]⟩,u.frm⟩)) ⟨hi,rfl,rfl⟩ (by simp only;omega) ?_;simp only[hS,pcC,tkC,qaq,qar,lca,lna];refine Wk.temps ?_
   (simp only[ja,tkC,go_sem,qh,qf,qb,qg];try exact wa)
  ·refine hK _ _ (i+1,v+1,.mem (qo (some O1)+1) 119 (tkC ⟨tx,nm,pg,ln,24,[]⟩),.mem (qo (some O2)+1) 131 (pcC ⟨⟨tx,nm,pg,ln,24,[]⟩,u.frm⟩)) ⟨hi,rfl,rfl⟩ (by simp only;omega) ?_;simp only[hS,pcC,tkC,qaq,qar,lca,lna];refine Wk.temps ?_
   (simp only[ja,tkC,go_sem,qh,qf,qb,qg];try exact wa)
 have k2:((i:Int)<T.length)=False:=wi;obtain rfl:i=T.length:=by omega
 simp (disch:=omega) only[k2,go_sem]
 repeat' first|(apply qa;exact rvk;simp only[go_sem])
 rw[List.take_length]at eL ⊢;exact qg1 eL.symm
end RC
end
section
open Go Go.Proofs AF
def qt1:List Nat:= [69]
def qvW:C:=
 (vS [O1 4 (.box 0 131) 0] (vS [vL 9 0 4,vL 10 0 9,LD 11 10,vL 12 6 4,LD 13 12,MV 14 1,MV 15 2,vL 16 0 4,vL 17 4 16,LD 18 17,vN 19 .and 18 4,vN 20 .neq 19 0,vL 21 0 4,vL 22 5
 21,LD 23 22,⟨some 24,none,.build [.str [],i6 0,i6 0,i6 0,.bool false,.bool false,.str []] [(0,1),(1,1),(2,1),(3,1),(5,1),(6,1)],[.t 11,.t 13,.t 14,.t 15,.t 20,.t 23]⟩,⟨some
 7,none,.alloc 1 133 [.str [],i6 0,i6 0,i6 0,.bool false,.bool false,.str []],[]⟩,ST 7 7 24] (vS [LD 25 3,O1 26 .len 25,MV 8 26] (vS [vL 27 0 4,vL 28 4 27,LD 29 28,vN 30 .and 29
 16,vN 31 .neq 30 0,MV 32 31,MG 33 32 true 8,PC 34 32 true (.bin .gtr) 33 (i6 0),PF 35 32 34,MV 36 35,P1 37 36 true (.load none) 3,MG 38 36 true 8,PC 39 36 true (.bin .sub) 38
 (i6 1),P2 40 36 true (.idxA 7) 37 39,P1 41 36 true (.fldA 0) 40,P1 42 36 true (.load none) 41,P1 43 36 true (.fldA 0) 7,P1 44 36 true (.load none) 43,P2 45 36 true (.call 70
 true) 42 44,PF 46 36 45,vL 47 4 7,ST 1 47 46] (vW [LD 48 3,O1 49 (.load (some 7)) 7,⟨some 50,none,.bslc 2 7 1 133 [.str [],i6 0,i6 0,i6 0,.bool false,.bool false,.str []]
 [(0,7)],[.t 49]⟩,O2 51 (.app 3 7 133 64) 48 50,ST 1 3 51])))))
theorem qlb:qK Tryz.prog 69 52 4 [] qvW:=fi Tryz.f69 [4,7,50,51] qt1 []
end
section
open Go Go.Proofs AF HY LN
namespace RC
theorem qBB: ∀f:Nat,f<32->qob .i64 (f:Int) 4=if f.testBit 2 then 4 else 0:=by decide+kernel
theorem qwd: ∀f:Nat,f<32->qob .i64 (f:Int) 16=if f.testBit 4 then 16 else 0:=by decide+kernel
def quk(W:List Wd):Option Str:=if W.length=0 then none else some (W.getD (W.length-1) default).text
section
variable {h : we} {a b c va : Nat}
def quF(h:we)(a b c:Nat)(va vb:Nat)(W:List Wd)(Z:AObj):we:=tri h a b c (.mem va 45 [.osl b vb 7 0 W.length]) (zw vb 133 (jo W)) Z
theorem qD6(t:T3 h a b c)(W:List Wd)(p:Pc)(u d:Int)(vb F:Nat)(Z:AObj)(hZ: ∀n,lowO n Z)(hF:p.t.flags=F)(hF2:F<32)(hx:p.t.text.length<=1000000000)(hW:W.length<=1000000000)(hWx: ∀w∈W,w.text.length<=1000000000):ACalls Tryz.prog 69 [.agg (pcC p),.int .i64 u,.int .i64 d,.op a va 0] (quF h a b c va vb W Z) (.tup []) (quF h a b c va (vb+1) (W++ [mkW (quk W) ⟨p,u,d⟩]) Z):=by
 have ta:=t.la;have tb:=t.lb;have tc:=t.lc;have zga: ∀ {X Y Z l},qq (a) (tri h a b c X Y Z++l)=some X:=dB (t);have yga: ∀ {X Y Z},qq (a) (tri h a b c X Y Z)=some X:=λ{X Y Z}=>by have:=zga (X:=X) (Y:=Y) (Z:=Z) (l:= []);simpa only[lan] using this
 have zgb: ∀ {X Y Z l},qq (b) (tri h a b c X Y Z++l)=some Y:=UE (t);have ygb: ∀ {X Y Z},qq (b) (tri h a b c X Y Z)=some Y:=λ{X Y Z}=>by have:=zgb (X:=X) (Y:=Y) (Z:=Z) (l:= []);simpa only[lan] using this
 have zgc: ∀ {X Y Z l},qq (c) (tri h a b c X Y Z++l)=some Z:=ey (t);have ygc: ∀ {X Y Z},qq (c) (tri h a b c X Y Z)=some Z:=λ{X Y Z}=>by have:=zgc (X:=X) (Y:=Y) (Z:=Z) (l:= []);simpa only[lan] using this
 have zsa: ∀ {X Y Z o l},qn (a) (tri h a b c X Y Z++l) o=tri h a b c o Y Z++l:=UF (t);have ysa: ∀ {X Y Z o},qn (a) (tri h a b c X Y Z) o=tri h a b c o Y Z:=λ{X Y Z o}=>by have:=zsa (X:=X) (Y:=Y) (Z:=Z) (o:=o) (l:= []);simpa only[lan] using this
 have zsb: ∀ {X Y Z o l},qn (b) (tri h a b c X Y Z++l) o=tri h a b c X o Z++l:=UQ (t);have ysb: ∀ {X Y Z o},qn (b) (tri h a b c X Y Z) o=tri h a b c X o Z:=λ{X Y Z o}=>by have:=zsb (X:=X) (Y:=Y) (Z:=Z) (o:=o) (l:= []);simpa only[lan] using this
 have zsc: ∀ {X Y Z o l},qn (c) (tri h a b c X Y Z++l) o=tri h a b c X Y o++l:=UR (t);have ysc: ∀ {X Y Z o},qn (c) (tri h a b c X Y Z) o=tri h a b c X Y o:=λ{X Y Z o}=>by have:=zsc (X:=X) (Y:=Y) (Z:=Z) (o:=o) (l:= []);simpa only[lan] using this
 have zca: ∀ {X Y Z v l},cellsOf (tri h a b c X Y Z++l) (a) v=qr (some X) v:=qay (t);have yca: ∀ {X Y Z v},cellsOf (tri h a b c X Y Z) (a) v=qr (some X) v:=λ{X Y Z v}=>by have:=zca (X:=X) (Y:=Y) (Z:=Z) (v:=v) (l:= []);simpa only[lan] using this
 have zcb: ∀ {X Y Z v l},cellsOf (tri h a b c X Y Z++l) (b) v=qr (some Y) v:=qaz (t);have ycb: ∀ {X Y Z v},cellsOf (tri h a b c X Y Z) (b) v=qr (some Y) v:=λ{X Y Z v}=>by have:=zcb (X:=X) (Y:=Y) (Z:=Z) (v:=v) (l:= []);simpa only[lan] using this
 have zcc: ∀ {X Y Z v l},cellsOf (tri h a b c X Y Z++l) (c) v=qr (some Z) v:=qaA (t);have ycc: ∀ {X Y Z v},cellsOf (tri h a b c X Y Z) (c) v=qr (some Z) v:=λ{X Y Z v}=>by have:=zcc (X:=X) (Y:=Y) (Z:=Z) (v:=v) (l:= []);simpa only[lan] using this
 have zla: ∀ {X Y Z v l},qE (tri h a b c X Y Z++l) (a) v=qG (some X) v:=qaB (t);have yla: ∀ {X Y Z v},qE (tri h a b c X Y Z) (a) v=qG (some X) v:=λ{X Y Z v}=>by have:=zla (X:=X) (Y:=Y) (Z:=Z) (v:=v) (l:= []);simpa only[lan] using this
 have zlb: ∀ {X Y Z v l},qE (tri h a b c X Y Z++l) (b) v=qG (some Y) v:=qaC (t);have ylb: ∀ {X Y Z v},qE (tri h a b c X Y Z) (b) v=qG (some Y) v:=λ{X Y Z v}=>by have:=zlb (X:=X) (Y:=Y) (Z:=Z) (v:=v) (l:= []);simpa only[lan] using this
 have zlc: ∀ {X Y Z v l},qE (tri h a b c X Y Z++l) (c) v=qG (some Z) v:=qaD (t);have ylc: ∀ {X Y Z v},qE (tri h a b c X Y Z) (c) v=qG (some Z) v:=λ{X Y Z v}=>by have:=zlc (X:=X) (Y:=Y) (Z:=Z) (v:=v) (l:= []);simpa only[lan] using this
 have e4:=qBB F hF2;have e16:=qwd F hF2;have hL:=qhk W;have ev:qC9 p.t.flags=F.testBit 2:=by unfold qC9;rw[hF,itn]
 have ej:jnB p.t.flags=F.testBit 4:=by unfold jnB;rw[hF,itn]
 unfold mkW;simp only[ev,ej];unfold quF;have eTk:List.take (W.length*7) (jo W)=jo W:=ltl om;have lo: ∀(n:Nat),lowO h.length (.mem va 45 [.osl b (vb+1) 7 0 n]):=λn cc hc=>by
  rw[List.mem_singleton]at hc;subst hc;simp[qS];omega
 have lq: ∀L:List Wd,lowO h.length (zw (vb+1) 133 (jo L)):=λL=>jl (qbQ L _)
 have fin: ∀(w:Wd) (tt:wg) (tl:we),fnQ [] (tri h a b c (.mem va 45 [.osl b vb 7 0 W.length]) (zw vb 133 (jo W)) Z) (λr1 h1=>r1= .tup []∧h1=tri h a b c (.mem va 45 [.osl b (vb+1) 7 0 (W++ [w]).length]) (zw (vb+1) 133 (jo (W++ [w]))) Z) .normal tt (tri h a b c (.mem va 45 [.osl b (vb+1) 7 0 (W.length+1)]) (zw (vb+1) 133 (jo W++wdC w)) Z++tl):=λw tt tl=>by
  have eA:jo W++wdC w=jo (W++ [w]):=by rw[qrp,qrq]
  rw[eA,show (W++ [w]).length=W.length+1 by simp];exact zK trivial (by simp only[tri_len]) (jB t (lo _) (lq _) (hZ _)) ⟨rfl,rfl⟩ (qi)
 have k4:((4:Int)=0)=False:=eqf (by decide);have k16:((16:Int)=0)=False:=eqf (by decide);have hb1: ∀n,(b !=h.length+n)=true:=λn=>by simp;omega
 by_cases hW0:W= []
 ·have k0:((0:Int)<W.length)=False:=eqf (by rw[hW0];simp);have eG:(qr (some (zw vb 133 (jo W))) vb).getD []=jo W:=by rw[hW0];rfl
  have el:quk W=none:=by unfold quk;rw[ipo (by rw[hW0];rfl)]
  rw[el];cases g2:F.testBit 2<;>cases g4:F.testBit 4<;>rw[g2]at e4<;>rw[g4]at e16<;>simp only[Bool.false_eq_true,if_false,if_true]at e4 e16
  all_goals
   refine acO qlb ?_;simp (disch:=omega) only[qvW,pcC,tkC,hF,e4,e16,zca,zcb,zlb,qX,qk,eG,hL,k0,k4,k16,decide_true,decide_false,Bool.not_false,Bool.not_true,Bool.and_false,go_sem]
   repeat' first|(refine ql ( .bool false) ?_;simp (disch:=omega) only[zga,zgb,zsa,zsb,zca,zcb,zlb,qX,qk,eG,eTk,hL,Bool.not_false,Bool.and_false,go_sem])|with_reducible apply aiA|exact clz|fail
  all_goals try exact hb1 _
  all_goals exact fin ⟨_,_,_,_,_,_,_⟩ _ _
 ·have hpos:0<W.length:=List.length_pos_iff.2 hW0;have k0:((0:Int)<W.length)=True:=wh;obtain⟨z,hz⟩:=wc (W.getD (W.length-1) default)
  have el:quk W=some z.text:=by unfold quk;rw[ine om,hz]
  rw[el];have hzx:=hWx z (by rw[hz];exact jk om);have gI:(jo W)[(W.length-1)*7]? =some (.str z.text):=by
   have:=qhj (L:=W) (i:=W.length-1) om
   rw[<-hz]at this;have h2:(((jo W).drop ((W.length-1)*7)).take 7)[0]? =some (.str z.text):=by rw[this];rfl
   rwa [List.getElem?_take,ipo om,List.getElem?_drop,Nat.add_zero]at h2
  have eI:((W.length:Int)-1).toNat=W.length-1:=by omega
  have eO:qr (some (zw vb 133 (jo W))) vb=some (jo W):=by
   rw[cb (λe=>by rw[e]at hL;simp at hL;omega),qk,ipo rfl]
  have c1:=λh=>qEC z.text p.t.text h hzx hx
  cases g2:F.testBit 2<;>cases g4:F.testBit 4<;>rw[g2]at e4<;>rw[g4]at e16<;>simp only[Bool.false_eq_true,if_false,if_true]at e4 e16
  case false.false=>
   refine acO qlb ?_;simp (disch:=omega) only[qvW,pcC,tkC,hF,e4,e16,zca,zcb,zlb,qX,qk,eO,hL,k0,decide_true,Bool.not_false,Bool.not_true,Bool.and_true,Bool.false_and,Bool.true_and,eI,gI,go_sem]
   repeat' first|(refine ql ( .bool false) ?_;simp (disch:=omega) only[zga,zgb,zsa,zsb,zca,zcb,zlb,qX,qk,eO,eTk,hL,Bool.not_false,Bool.false_and,Bool.true_and,go_sem])|with_reducible apply aiA|exact clz|fail
   all_goals try exact hb1 _
   exact fin ⟨_,_,_,_,_,_,_⟩ _ _
  case false.true=>
   refine acO qlb ?_;simp (disch:=omega) only[qvW,pcC,tkC,hF,e4,e16,zca,zcb,zlb,qX,qk,eO,hL,k0,k16,decide_true,decide_false,Bool.not_false,Bool.not_true,Bool.and_true,Bool.false_and,Bool.true_and,eI,gI,go_sem]
   repeat' first|(refine cG (λe=>c1 _) flk ?_;simp (disch:=omega) only[zga,zgb,zsa,zsb,zca,zcb,zlb,qX,qk,eO,eTk,hL,Bool.not_true,Bool.false_and,Bool.true_and,go_sem])|with_reducible apply aiA|exact clz|fail
   all_goals try exact hb1 _
   exact fin ⟨_,_,_,_,_,_,_⟩ _ _
  case true.false=>
   refine acO qlb ?_;simp (disch:=omega) only[qvW,pcC,tkC,hF,e4,e16,zca,zcb,zlb,qX,qk,eO,hL,k0,k4,decide_true,decide_false,Bool.not_false,Bool.not_true,Bool.and_true,Bool.false_and,Bool.true_and,eI,gI,go_sem]
   repeat' first|(refine ql ( .bool false) ?_;simp (disch:=omega) only[zga,zgb,zsa,zsb,zca,zcb,zlb,qX,qk,eO,eTk,hL,Bool.not_false,Bool.false_and,Bool.true_and,go_sem])|with_reducible apply aiA|exact clz|fail
   all_goals try exact hb1 _
   exact fin ⟨_,_,_,_,_,_,_⟩ _ _
  case true.true=>
   refine acO qlb ?_;simp (disch:=omega) only[qvW,pcC,tkC,hF,e4,e16,zca,zcb,zlb,qX,qk,eO,hL,k0,k4,k16,decide_true,decide_false,Bool.not_false,Bool.not_true,Bool.and_true,Bool.false_and,Bool.true_and,eI,gI,go_sem]
   repeat' first|(refine cG (λe=>c1 _) flk ?_;simp (disch:=omega) only[zga,zgb,zsa,zsb,zca,zcb,zlb,qX,qk,eO,eTk,hL,Bool.not_true,Bool.false_and,Bool.true_and,go_sem])|with_reducible apply aiA|exact clz|fail
   all_goals try exact hb1 _
   exact fin ⟨_,_,_,_,_,_,_⟩ _ _
end
def PcF(p:Pc):Prop:=(∃F:Nat,p.t.flags=F∧F<32)∧p.t.text.length<=64
theorem quK{p:Pc}(h:tkE p.t=0):PcF p:=by
 refine⟨?_,(qvn h).2⟩;unfold tkE at h;split at h
 ·cases h
 ·rename_i g;exact⟨p.t.flags.toNat,om,om⟩
theorem Uy{x:Co}(ho:CoOk x){s f d:Nat}(hs:s<x.sig.length)(hd:f+d<=x.col.length): ∀p∈spk x s f d,PcF p:=by
 intro p hp;obtain⟨k,k1,k2,k3,rfl⟩:=qlG.1 hp;exact quK (qsc ho hs om k3).1
theorem qsb{s:Str}{f:Int}(h:qhb s=0): ∀p∈cjP (qed s) f,PcF p:=by
 intro p hp;unfold cjP at hp;obtain⟨t,ht,rfl⟩:=List.mem_map.1 hp;obtain⟨_,g⟩:=qny ht;refine⟨?_,?_⟩
 ·rcases g with g|g|g|g
  ·exact⟨0,g,om⟩
  ·exact⟨16,g,om⟩
  ·exact⟨8,g,om⟩
  ·exact⟨24,g,om⟩
 ·unfold qhb at h;split at h
  ·cases h
  ·rename_i g2;have g3:=qcR.1 (Bool.eq_false_iff.2 g2);obtain⟨u,_,e,hu⟩:=qf6 s ht
   have:=g3 u hu
   rw[e];exact this
theorem qoC{L:List Rw}{n:Nat}(h: ∀r∈L,r.p.t.text.length<=n): ∀w∈bsW L,w.text.length<=n:=by
 intro w hw;unfold bsW at hw;obtain⟨i,hi,rfl⟩:=List.mem_map.1 hw;rw[List.mem_range]at hi;exact h _ (jk hi)
theorem qv9{hh:we}{a b c va vb:Nat}{Z:AObj}(t:T3 hh a b c)(L:List Rw)(p:Pc)(u d:Int)(hX:qq a hh=some (.mem va 45 [.osl b vb 7 0 L.length]))(hY:qq b hh=some (zw vb 133 (jo (bsW L))))(hZg:qq c hh=some Z)(hZ: ∀n,lowO n Z)(hp:PcF p)(hL:L.length<=1000000000)(hLx: ∀r∈L,PcF r.p):
  ACalls Tryz.prog 69 [.agg (pcC p),.int .i64 u,.int .i64 d,.op a va 0] hh (.tup []) (qn b (qn a hh (.mem va 45 [.osl b (vb+1) 7 0 (L.length+1)])) (zw (vb+1) 133 (jo (bsW (L++ [⟨p,u,d⟩]))))):=by
 obtain⟨⟨F,f1,f2⟩,f3⟩:=hp;have h1:=qD6 (va:=va) t (bsW L) p u d vb F Z hZ f1 f2 om (by rw[gH];exact hL) (λw hw=>Nat.le_trans (qoC (n:=64) (λr hr=>(hLx r hr).2) w hw) om);have e1:quF hh a b c va vb (bsW L) Z=hh:=by
  unfold quF;rw[gH];exact qsl hX hY hZg
 have e2:quk (bsW L)=qqp (L++ [⟨p,u,d⟩]) L.length:=by
  rw[qmt];unfold quk;rw[gH]
 rw[e1,e2,<-qoB]at h1;have e3:quF hh a b c va (vb+1) (bsW (L++ [⟨p,u,d⟩])) Z=qn b (qn a hh (.mem va 45 [.osl b (vb+1) 7 0 (L.length+1)])) (zw (vb+1) 133 (jo (bsW (L++ [⟨p,u,d⟩])))):=by
  unfold quF tri;rw[gH,lap,lco,lnl];refine jz ?_;rw[qR (λe=>t.bc e.symm),qR (λe=>t.ac e.symm)];exact hZg
 rw[e3]at h1;exact h1
end RC
end
section
open Go Go.Proofs AF
def qbH:List Nat:= []
def qBP:C:=
 (vS [ON 4 (.nilo 0 1 3) []] ((vS [MV 9 1,vN 10 .lss 9 0] (vT 10 C.bad)).seq (vS [MV 13 0,O1 14 .len 13,O1 15 (.conv .u64) 14,MV 16 1,O1 17 (.conv .u64) 16,O2 18 (.call 144 true)
 15 17,MV 12 18,O1 19 (.ext 0) 12,O1 20 (.ext 1) 12,MV 5 19,MV 6 20] ((vS [MV 21 5,BC 22 .gtr 21 (.int .u64 0),MV 23 22,vQ 24 23 6,vR 25 23 (.bin .gtr) 24 (.int .u64
 9223372036854775807),PT 26 23 25] (vT 26 C.bad)).seq (vS [MV 28 6,O1 29 (.conv .i64) 28,⟨some 30,none,.mkslc 1 1 3 [i6 0] 8,[.t 29,.t 29]⟩,MV 7 30] (vS [MV 31 7,MV 32 0,O2 33
 (.cpy 1) 31 32,MV 8 33] ((C.block 0 ((vY 34 8 7 0).seq (C.block 1 (vW [MV 38 8,MV 39 7,MV 40 8,O2 41 (.slc 1 true false) 39 40,MV 42 7,MV 43 8,O2 44 (.slc 1 false true) 42
 43,O2 45 (.cpy 1) 41 44,BI 46 .add 38 45,MV 8 46]))).loop).seq (vV [MV 47 7,MV 4 47]))))))))
theorem qze:qK Tryz.prog 68 48 2 [RV.tmp 4] qBP:=fi Tryz.f68 [4,30] qbH []
def qwy:C:=
 (vS [MC 4 (.int .u64 0),MC 5 (.int .u64 0)] ((C.cond (.c (.bool false)) (vS [MV 11 0,O1 12 (.conv .u32) 11,MV 13 1,O1 14 (.conv .u32) 13,O2 15 (.call 217 true) 12 14,MV 10 15,O1
 16 (.ext 0) 10,O1 17 (.ext 1) 10,MV 6 16,MV 7 17] (vV [MV 18 6,O1 19 (.conv .u64) 18,MV 20 7,O1 21 (.conv .u64) 20,MV 4 19,MV 5 21])) C.skip).seq (vS [MV 23 0,MV 24 1,O2 25
 (.call 218 true) 23 24,MV 22 25,O1 26 (.ext 0) 22,O1 27 (.ext 1) 22,MV 8 26,MV 9 27] (vV [MV 28 8,MV 29 9,MV 4 28,MV 5 29]))))
theorem qx7:qK Tryz.prog 144 30 0 [RV.tmp 4,RV.tmp 5] qwy:=fi Tryz.f144 [] qbH []
def qwO:C:=
 (vS [MC 4 (.int .u64 0),MC 5 (.int .u64 0)] (vS [MV 14 0,BC 15 .and 14 (.int .u64 4294967295),MV 6 15] (vS [MV 16 0,BC 17 .shr 16 (.int .u64 32),MV 7 17] (vS [MV 18 1,BC 19 .and
 18 (.int .u64 4294967295),MV 8 19] (vS [MV 20 1,BC 21 .shr 20 (.int .u64 32),MV 9 21] (vS [MV 22 6,MV 23 8,BI 24 .mul 22 23,MV 10 24] (vS [MV 25 7,MV 26 8,BI 27 .mul 25 26,MV
 28 10,BC 29 .shr 28 (.int .u64 32),BI 30 .add 27 29,MV 11 30] (vS [MV 31 11,BC 32 .and 31 (.int .u64 4294967295),MV 12 32] (vS [MV 33 11,BC 34 .shr 33 (.int .u64 32),MV 13 34]
 (vS [MV 35 12,MV 36 6,MV 37 9,BI 38 .mul 36 37,BI 39 .add 35 38,MV 12 39] (vS [MV 40 7,MV 41 9,BI 42 .mul 40 41,MV 43 13,BI 44 .add 42 43,MV 45 12,BC 46 .shr 45 (.int .u64
 32),BI 47 .add 44 46,MV 4 47] (vV [MV 48 0,MV 49 1,BI 50 .mul 48 49,MV 5 50]))))))))))))
theorem qyo:qK Tryz.prog 218 51 0 [RV.tmp 4,RV.tmp 5] qwO:=fi Tryz.f218 [] qbH []
def qBt:C:=
 (vS [ON 2 (.nilo 0 3 39) []] ((vS [MV 3 0,O1 4 (.isnil .slice false) 3] (vT 4 (vV [ON 2 (.nilo 0 3 39) []]))).seq (vV [⟨some 5,none,.bslc 1 3 0 39 [i6 0,i6 0,.nl] [],[]⟩,MV 6
 0,O2 7 (.app 2 3 39 40) 5 6,MV 2 7])))
theorem qtQ:qK Tryz.prog 71 8 3 [RV.tmp 2] qBt:=fi Tryz.f71 [2,5,7] qbH []
end
section
open Go Go.Proofs AF HY LN
namespace RC
def UO(L:List Un):wg:=L.flatMap unC
theorem qnD(u:Un):(unC u).length=3:=rfl
theorem qbO(L:List Un):(UO L).length=L.length*3:=by
 unfold UO
 induction L with
 |nil=>rfl
 |cons a L ih=>rw[List.flatMap_cons,lap,ih,lco,qnD];omega
theorem qre(A B:List Un):UO (A++B)=UO A++UO B:=by simp[UO]
theorem qrf(a:Un):UO [a]=unC a:=by simp[UO]
theorem qnE(L:List Un): ∀i,(UO L).drop (i*3)=UO (L.drop i):=by
 induction L with
 |nil=>intro i;simp[UO]
 |cons a L ih=>
  intro i;cases i with
  |zero=>simp
  |succ i=>
   rw[show UO (a::L)=unC a++UO L from rfl,show (a::L).drop (i+1)=L.drop i from rfl,<-ih i];rw[show (i+1)*3=(unC a).length+i*3 by rw[qnD];omega,List.drop_append,List.drop_eq_nil_of_le om,lna,Nat.add_sub_cancel_left]
theorem qhg{L:List Un}{i:Nat}(hi:i<L.length):((UO L).drop (i*3)).take 3=unC (L.getD i default):=by
 rw[qnE,List.drop_eq_getElem_cons hi,gdqA,zH hi];rfl
theorem qpv(L:List Un):((List.range L.length).flatMap λi=>unC (L.getD i default))=UO L:=by
 unfold UO;have e:L=(List.range L.length).map λi=>L.getD i default:=by
  apply List.ext_getElem (by simp);intro i h1 h2;simp[gdqA,h1]
 conv=>rhs;rw[e]
 rw[List.flatMap_map]
theorem qne(h:we)(L:List Un):qj h (jI L)=some (L.length,UO L):=by
 show some (L.length,_)=_;rw[qpv]
theorem qd0(L:List Un)(n:Nat): ∀c∈UO L,qS n c=true:=by
 intro c hc;unfold UO at hc;obtain⟨x,_,hx⟩:=List.mem_flatMap.1 hc;simp only[unC,List.mem_cons,List.not_mem_nil,or_false]at hx;rcases hx with rfl|rfl|rfl<;>rfl
theorem qly{L:List Un}(h:L≠ []):valP (.isnil .slice false) [jI L]= .bool false:=by
 unfold jI;rw[qaF,ine (by simpa using h)];rfl
theorem qEi(L:List Un)(h:we)(k:Nat)(hk:qH h k=true)(h0:L≠ [])(hl:L.length<=1000000000):
  ACalls Tryz.prog 71 [jI L] h (.osl k (qo (qq k h)+1) 3 0 L.length) (qn k h (.mem (qo (qq k h)+1) 39 (UO L))):=by
 have s1:=λh=>qne h L
 have eP:=qbO L;have hp:=List.length_pos_iff.2 h0;have z0:=qly h0;have z1:okP (.isnil .slice false) [jI L]=True:=eqt trivial;refine qbR qtQ k (by simp) ?_;simp only[lco,lnl,Nat.reduceAdd,Nat.reduceSub,List.replicate,lca,lna];simp (disch:=omega) only[qBt,s1,z0,z1,go_sem]
 repeat' first|(with_reducible apply aiA)
 all_goals first
  |omega
  |contradiction
  |skip
 all_goals try rfl
 exact⟨h.length+1,2,3,0,L.length,39,UO L,_,⟨trivial,trivial⟩,rfl,rfl,om,by simp only[go_sem],qd0 L _,hk,rfl,rfl⟩
theorem qd9{n:Int}(h0:0<=n)(h1:n<18446744073709551616):IntKind.u64.wrap n=n:=by
 have e1:(2:Int)^IntKind.bits IntKind.u64=18446744073709551616:=rfl;have e3:IntKind.signed IntKind.u64=false:=rfl;unfold IntKind.wrap;rw[e1,e3];simp only[Bool.false_and,Bool.false_eq_true,if_false];omega
theorem qmX{a:Int}:qv5 .u64 a 32=a/4294967296:=by
 have e:(2:Int)^(min (32:Int).toNat IntKind.u64.bits)=4294967296:=rfl;unfold qv5;rw[e,Int.fdiv_eq_ediv_of_nonneg _ om]
theorem qwe{n:Nat}(hn:n<=1000000000):qob .u64 (n:Int) 4294967295=n:=by
 have e:IntKind.u64.bits=64:=rfl;unfold qob;rw[e,BitVec.toNat_and,BitVec.toNat_ofInt,BitVec.toNat_ofInt];have e2:((n:Int)%((2^64:Nat):Int)).toNat=n:=by
  rw[show ((2^64:Nat):Int)=18446744073709551616 by rfl];omega
 have e3:((4294967295:Int)%((2^64:Nat):Int)).toNat=2^32-1:=by rfl
 rw[e2,e3,Nat.and_two_pow_sub_one_eq_mod,qd9 om om];omega
theorem qEI(n:Nat)(h:we)(hn:n<=1000000000):ACalls Tryz.prog 218 [.int .u64 1,.int .u64 (n:Int)] h (.tup [.int .u64 0,.int .u64 (n:Int)]) h:=by
 have e0:qv5 .u64 1 32=0:=by rw[qmX];rfl
 have e1:qv5 .u64 (n:Int) 32=0:=by rw[qmX];omega
 have e2:qv5 .u64 0 32=0:=by rw[qmX];rfl
 have e3:qob .u64 1 4294967295=1:=by decide+kernel
 have e4:qob .u64 0 4294967295=0:=by decide+kernel
 have e5:IntKind.u64.wrap 0=0:=by decide
 have e6:IntKind.u64.wrap (n:Int)=n:=qd9 om om;refine acO qyo ?_;simp (disch:=omega) only[qwO,go_sem]
 repeat' first|(apply qc;exact rvk;simp only[go_sem])|with_reducible apply aiA|exact clz|fail
 have e7:=qwe hn;simp only[e0,e1,e2,e3,e4,e5,e6,e7,Int.zero_mul,Int.mul_zero,Int.one_mul,Int.add_zero];exact qi
theorem qDS(n:Nat)(h:we)(hn:n<=1000000000):ACalls Tryz.prog 144 [.int .u64 1,.int .u64 (n:Int)] h (.tup [.int .u64 0,.int .u64 (n:Int)]) h:=by
 have c1:=λh=>qEI n h hn
 refine acO qx7 ?_;simp (disch:=omega) only[qwy,go_sem]
 repeat' first|(refine cA (c1 _) flk ?_;simp (disch:=omega) only[go_sem])|exact v8|with_reducible apply aiA|exact clz|fail
def rpC(a:Int)(n i:Nat):wg:=gC (λj=> .int .i64 (if j<i then a else 0)) n
theorem qlE(n:Nat):zf [.int .i64 0] n=rpC 0 n 0:=by
 refine List.ext_getElem? λk=> ?_
 obtain⟨h1,h2⟩:=jM [AV.int .i64 0] n
 by_cases hk:k<n
 ·unfold rpC;rw[qb2 hk,ine (nnz _)]
  have:=h2 k (by simp;omega)
  rw[this,List.length_singleton,Nat.mod_one];rfl
 ·rw[List.getElem?_eq_none (by rw[h1];simp;omega),List.getElem?_eq_none (by unfold rpC;rw[ol];omega)]
theorem U0(a:Int)(n i:Nat):(rpC a n i).length=n:=by unfold rpC;rw[ol]
theorem UZ{a:Int}{n i k:Nat}(hk:k<n):(rpC a n i)[k]? =some (.int .i64 (if k<i then a else 0)):=by unfold rpC;rw[qb2 hk]
theorem qqJ(a:Int){n i j:Nat}(hj:j<=i)(hi:i+j<=n):(rpC a n i).take i++(rpC a n i).take j++(rpC a n i).drop (i+j)=rpC a n (i+j):=by
 have hl:=U0 a n i;have l1:((rpC a n i).take i).length=i:=by rw[List.length_take];omega
 have l2:((rpC a n i).take j).length=j:=by rw[List.length_take];omega
 refine List.ext_getElem? λk=> ?_
 by_cases hk:k<n
 ·rw[UZ hk]
  by_cases g1:k<i
  ·rw[List.append_assoc,List.getElem?_append_left om,List.getElem?_take,ipo g1,UZ hk,ipo g1,ipo om]
  ·rw[List.append_assoc,List.getElem?_append_right om,l1]
   by_cases g2:k-i<j
   ·rw[List.getElem?_append_left om,List.getElem?_take,ipo g2,UZ om,ipo om,ipo om]
   ·rw[List.getElem?_append_right om,l2,List.getElem?_drop,show i+j+(k-i-j)=k by omega,UZ hk,ine g1,ine om]
 ·rw[List.getElem?_eq_none (by simp only[lap,l1,l2,List.length_drop,hl];omega),List.getElem?_eq_none (by rw[U0];omega)]
theorem qu4(a:Int){n:Nat}(hn:0<n):List.take 1 (qU [a])++List.drop 1 (rpC 0 n 0)=rpC a n 1:=by
 refine List.ext_getElem? λk=> ?_
 by_cases hk:k<n
 ·rw[UZ hk];cases k with
  |zero=>rfl
  |succ k=>
   rw[List.getElem?_append_right (by simp[qU]),List.getElem?_drop];rw[show 1+(k+1-(List.take 1 (qU [a])).length)=k+1 by simp[qU];omega,UZ hk,ine (nnz _),ine om]
 ·rw[List.getElem?_eq_none (by simp[qU,U0];omega),List.getElem?_eq_none (by rw[U0];omega)]
theorem qu3(a:Int)(n:Nat):rpC a n n=qU (List.replicate n a):=by
 refine List.ext_getElem? λk=> ?_
 by_cases hk:k<n
 ·rw[UZ hk,ipo hk];unfold qU;rw[List.getElem?_map,List.getElem?_replicate,ipo hk];rfl
 ·rw[List.getElem?_eq_none (by rw[U0];omega),List.getElem?_eq_none (by simp[qU];omega)]
theorem qEU(a:Int)(n:Nat)(h:we)(k:Nat)(hk:qH h k=true)(h0:0<n)(hl:n<=1000000000):
  ACalls Tryz.prog 68 [qP [a],.int .i64 (n:Int)] h (.osl k (qo (qq k h)+1) 1 0 n) (qn k h (.mem (qo (qq k h)+1) 3 (qU (List.replicate n a)))):=by
 have s1:=λh=>qg3 h [a]
 have c1:=λh=>qDS n h hl
 have k1:((n:Int)<0)=False:=wi;have k2:((9223372036854775807:Int)<n)=False:=wi;have z1: ∀g,valL g .len [qP [a]]= .int .i64 1:=λ_=>rfl
 have z2: ∀g,okL g .len [qP [a]]=True:=λ_=>eqt trivial
 have e5:IntKind.u64.wrap 1=1:=by decide
 have e6:IntKind.u64.wrap (n:Int)=n:=qd9 om om;refine qbR qze k (by simp) ?_;simp only[lco,lnl,Nat.reduceAdd,Nat.reduceSub,List.replicate,lca,lna];simp (disch:=omega) only[qBP,z1,z2,k1,e5,e6,go_sem]
 repeat' first|(refine cA (c1 _) flk ?_;simp (disch:=omega) only[s1,k2,go_sem])|(with_reducible first|intro _|apply aiA)|exact clz|fail
 ·rw[qlE,U0];exact nlr _
 ·rfl
 have e8:min 1 n=1:=by omega
 rw[e8,qlE,qu4 a h0];refine qt (T:=λi:Nat=>zg 48 [(7,.osl (h.length+1) 1 1 0 n),(8,.int .i64 i)]) (H:=λi=>h++ [.emp 1,.mem 1 3 (rpC a n i)])
  (inv:=λi=>0<i∧i<=n) (m:=λi=>n-i) 1 ⟨Nat.one_pos,h0⟩ (Wk.temps ?_) ?_
 ·(simp only[go_sem,qh,qf,qb,qg];try exact wa)
 rintro i ⟨i1,i2⟩ K hK;have hrl:=U0 a n i
 by_cases hi:i<n
 ·have q1:((i:Int)<n)=True:=wh;have q2:(i<=n)=True:=eqt i2;simp (disch:=omega) only[q1,q2,hrl,Nat.sub_zero,Option.isSome_some,Option.getD_some,if_true,go_sem]
  repeat' first|with_reducible apply aiA|exact clz|fail
  ·rw[List.length_take,hrl];omega
  have e9:List.take (min i (n-i)) (List.take i (rpC a n i))=List.take (min i (n-i)) (rpC a n i):=by rw[List.take_take,show min (min i (n-i)) i=min i (n-i) by omega]
  rw[e9,qqJ a om om];refine hK _ _ (i+min i (n-i)) ⟨om,om⟩ om (Wk.temps ?_)
  (simp only[Int.natCast_add,go_sem,qh,qf,qb,qg];try exact wa)
 ·have q1:((i:Int)<n)=False:=wi;obtain rfl:i=n:=by omega
  simp (disch:=omega) only[q1,go_sem];rw[qu3];exact⟨h.length+1,1,1,0,i,3,qU (List.replicate i a),_,⟨trivial,trivial⟩,rfl,rfl,om,by simp only[go_sem],λc hc=>by
   unfold qU at hc;obtain⟨z,_,rfl⟩:=List.mem_map.1 hc
   rfl,hk,rfl,rfl⟩
end RC
end
section
open Go Go.Proofs AF
def qpK:List Nat:= [69,68,71]
@[go_sem]def vA:DT:= DT.one ⟨some 78,none,.app 6 3 39 40,[.t 69,.t 77]⟩ (DT.one ⟨some 79,none,.len,[.t 78]⟩ DT.nil)
@[go_sem]def vJ:DT:= DT.one ⟨some 77,none,.bslc 5 3 1 39 [i6 0,i6 0,.nl] [(0,3)],[.t 76]⟩ vA
@[go_sem]def vq:DT:= DT.one ⟨some 76,none,.build [i6 0,i6 0,.nl] [(0,1),(1,1)],[.t 72,.t 75]⟩ vJ
@[go_sem]def vr:DT:= DT.one ⟨some 76,none,.build [i6 0,i6 0,.nl] [(0,1),(1,1)],[.t 72,.t 75]⟩ ((DT.one ⟨some 69,none,.call 71 false,[.t 68]⟩ vJ).two (DT.one ⟨some 77,none,.bslc 5 3 1 39 [i6 0,i6
 0,.nl] [(0,3)],[.t 76]⟩ (DT.one ⟨some 69,none,.call 71 false,[.t 68]⟩ vA)))
@[go_sem]def vB:DT:= DT.one ⟨some 75,none,.len,[.t 74]⟩ vq
@[go_sem]def vv:DT:= DT.one ⟨some 74,none,.load none,[.t 73]⟩ vB
@[go_sem]def vD:DT:= DT.one ⟨some 72,none,.len,[.t 71]⟩ (DT.one ⟨some 73,none,.fldA 3,[.t 4]⟩ vv)
@[go_sem]def vE:DT:= (DT.one ⟨some 69,none,.call 71 false,[.t 68]⟩ (DT.one ⟨some 72,none,.len,[.t 71]⟩ vq)).two (DT.one ⟨some 72,none,.len,[.t 71]⟩ vr)
@[go_sem]def vF:DT:= (DT.one ⟨some 69,none,.call 71 false,[.t 68]⟩ vB).two (DT.one ⟨some 75,none,.len,[.t 74]⟩ vr)
@[go_sem]def vu:DT:= (DT.one ⟨some 69,none,.call 71 false,[.t 68]⟩ (DT.one ⟨some 72,none,.len,[.t 71]⟩ vB)).two ((DT.one ⟨some 72,none,.len,[.t 71]⟩ vF).two (DT.one ⟨some 75,none,.len,[.t 74]⟩ vE))
@[go_sem]def vy:DT:= (DT.one ⟨some 69,none,.call 71 false,[.t 68]⟩ vv).two (DT.one ⟨some 74,none,.load none,[.t 73]⟩ vF)
@[go_sem]def vC:DT:= (DT.one ⟨some 69,none,.call 71 false,[.t 68]⟩ (DT.one ⟨some 72,none,.len,[.t 71]⟩ vv)).two ((DT.one ⟨some 72,none,.len,[.t 71]⟩ vy).two (DT.one ⟨some 74,none,.load none,[.t 73]⟩
 vu))
@[go_sem]def vG:DT:= DT.one ⟨some 71,none,.load none,[.t 70]⟩ (DT.one ⟨some 72,none,.len,[.t 71]⟩ vv)
@[go_sem]def vH:DT:= DT.one ⟨some 71,none,.load none,[.t 70]⟩ (DT.one ⟨some 72,none,.len,[.t 71]⟩ vB)
@[go_sem]def vI:DT:= DT.one ⟨some 71,none,.load none,[.t 70]⟩ (DT.one ⟨some 72,none,.len,[.t 71]⟩ vq)
@[go_sem]def vx:DT:= (DT.one ⟨some 69,none,.call 71 false,[.t 68]⟩ vI).two (DT.one ⟨some 71,none,.load none,[.t 70]⟩ vE)
@[go_sem]def vz:DT:= (DT.one ⟨some 69,none,.call 71 false,[.t 68]⟩ vH).two ((DT.one ⟨some 71,none,.load none,[.t 70]⟩ vu).two (DT.one ⟨some 75,none,.len,[.t 74]⟩ vx))
@[go_sem]def vt:DT:= (DT.one ⟨some 69,none,.call 71 false,[.t 68]⟩ vG).two ((DT.one ⟨some 71,none,.load none,[.t 70]⟩ vC).two (DT.one ⟨some 74,none,.load none,[.t 73]⟩ vz))
def qfh:C:=
 (vS [O1 4 (.box 0 26) 0,ON 8 (.nilo 1 7 133) [],vM 9 0] ((vS [O1 26 (.load (some 4)) 4,MV 27 1,O2 28 (.call 66 true) 26 27,MV 10 28] (vS [MV 29 10,vN 30 .neq 29 0] (vT 30 (vV
 [MV 31 10,ON 8 (.nilo 1 7 133) [],MV 9 31])))).seq ((vS [MV 32 3,vN 33 .lss 32 0,MV 34 33,vQ 35 34 3,vZ 36 34 1 4,v6 37 34 36,vO 38 34 .len 37,vP 39 34 (.bin .geq) 35 38,PT 40
 34 39] (vT 40 (vV [ON 8 (.nilo 1 7 133) [],vM 9 2]))).seq (vS [O1 42 (.load (some 4)) 4,MV 43 1,MV 44 2,ON 45 (.call 67 true) [.t 42,.t 43,.t 44],MV 41 45,O1 46 (.ext 0) 41,O1
 47 (.ext 1) 41,MV 11 46,MV 12 47] ((vS [MV 48 12,vN 49 .neq 48 0] (vT 49 (vV [MV 50 12,ON 8 (.nilo 1 7 133) [],MV 9 50]))).seq (vS [⟨some 51,none,.bslc 2 1 1 3 [i6 0]
 [(0,1)],[.c (i6 (-1))]⟩,MV 52 1,O1 53 .len 52,O2 54 (.call 68 false) 51 53,MV 13 54] ((vS [MV 55 11,O1 56 .len 55,vM 57 0] (C.block 0 (vS [BI 58 .lss 57 56] ((vU 58 0).seq
 ((C.block 1 (vS [MV 59 57,O2 60 (.idxA 1) 55 57,LD 61 60,MV 14 59,MV 15 61] (vW [MV 62 13,MV 63 15,MV 64 14,O2 65 (.idxA 1) 62 63,ST 1 65 64]))).seq (vW [vN 66 .add 57 1,MV 57
 66])))).loop)).seq (vS [⟨some 16,none,.alloc 3 45 [.nl],[]⟩] ((C.wk.seq (vW [O1 67 (.mkfn (Fn.func 69) 0) 16,⟨some 17,none,.alloc 4 135 [.nilfn],[]⟩,ST 1 17 67])).seq (vS [vM
 18 0] (((C.draw (DT.one ⟨some 68,none,.mv,[.t 1]⟩ (DT.one ⟨some 80,none,.mv,[.c (i6 0)]⟩ ((DT.one ⟨some 69,none,.call 71 false,[.t 68]⟩ (DT.one ⟨some 70,none,.fldA 3,[.t 4]⟩
 (DT.one ⟨some 71,none,.load none,[.t 70]⟩ vD))).two ((DT.one ⟨some 70,none,.fldA 3,[.t 4]⟩ ((DT.one ⟨some 69,none,.call 71 false,[.t 68]⟩ (DT.one ⟨some 71,none,.load none,[.t
 70]⟩ vD)).two ((DT.one ⟨some 71,none,.load none,[.t 70]⟩ ((DT.one ⟨some 69,none,.call 71 false,[.t 68]⟩ vD).two ((DT.one ⟨some 72,none,.len,[.t 71]⟩ ((DT.one ⟨some
 69,none,.call 71 false,[.t 68]⟩ (DT.one ⟨some 73,none,.fldA 3,[.t 4]⟩ vv)).two (DT.one ⟨some 73,none,.fldA 3,[.t 4]⟩ vy))).two (DT.one ⟨some 73,none,.fldA 3,[.t 4]⟩ vC)))).two
 (DT.one ⟨some 73,none,.fldA 3,[.t 4]⟩ vt)))).two (DT.one ⟨some 73,none,.fldA 3,[.t 4]⟩ ((DT.one ⟨some 69,none,.call 71 false,[.t 68]⟩ (DT.one ⟨some 70,none,.fldA 3,[.t 4]⟩
 vG)).two ((DT.one ⟨some 70,none,.fldA 3,[.t 4]⟩ vt).two (DT.one ⟨some 74,none,.load none,[.t 73]⟩ ((DT.one ⟨some 69,none,.call 71 false,[.t 68]⟩ (DT.one ⟨some 70,none,.fldA
 3,[.t 4]⟩ vH)).two ((DT.one ⟨some 70,none,.fldA 3,[.t 4]⟩ vz).two (DT.one ⟨some 75,none,.len,[.t 74]⟩ ((DT.one ⟨some 69,none,.call 71 false,[.t 68]⟩ (DT.one ⟨some 70,none,.fldA
 3,[.t 4]⟩ vI)).two (DT.one ⟨some 70,none,.fldA 3,[.t 4]⟩ vx)))))))))))))).seq (C.block 2 (vS [BI 81 .lss 80 79] ((vU 81 2).seq ((C.block 3 (vS [MV 82 80,O2 83 (.idxA 3) 78
 80,O1 84 (.load (some 3)) 83,⟨some 19,none,.alloc 7 3 [i6 0],[]⟩,⟨some 20,none,.alloc 8 39 [i6 0,i6 0,.nl],[]⟩,ST 1 19 82,ST 3 20 84] ((vS [O1 85 (.load (some 4)) 4,MV 86 18,vL
 87 0 20,LD 88 87,MV 89 3,ON 90 (.call 72 true) [.t 85,.t 86,.t 88,.t 89]] (C.block 4 (C.range (.t 90) [91] (vW [⟨some 21,none,.alloc 9 131 [.str [],.str [],.str [],i6 0,i6
 0,.str [],i6 0],[]⟩,ST 7 21 91]) (C.block 5 (vW [LD 92 17,O1 93 (.load (some 7)) 21,ON 94 .callv [.t 92,.t 93,.c (i6 (-1)),.c (i6 (-1))]]))))).seq (vS [vL 95 1 20,LD 96 95,MV
 18 96] (C.block 6 (vS [LD 127 19,MV 128 1,O1 129 .len 128,BI 130 .eql 127 129,MV 126 130] (C.cond (.t 126) C.skip (vS [MV 132 13,LD 133 19,O2 134 (.idxA 1) 132 133,LD 135
 134,vN 136 .lss 135 0,MV 131 136] (C.cond (.t 131) (vS [O1 137 (.load (some 4)) 4,vL 138 0 20,LD 139 138,vL 140 1 20,LD 141 140,MV 142 3,ON 143 (.call 72 true) [.t 137,.t
 139,.t 141,.t 142]] (C.block 9 (C.range (.t 143) [144] (vW [⟨some 22,none,.alloc 10 131 [.str [],.str [],.str [],i6 0,i6 0,.str [],i6 0],[]⟩,ST 7 22 144]) (C.block 10 (vW [LD
 145 17,O1 146 (.load (some 7)) 22,LD 147 19,ON 148 .callv [.t 145,.t 146,.t 147,.c (i6 (-1))]]))))) (vS [MV 97 2,MV 98 13,LD 99 19,O2 100 (.idxA 1) 98 99,LD 101 100,O2 102
 (.idxA 4) 97 101,O1 103 (.load (some 4)) 102,⟨some 23,none,.alloc 11 65 [i6 0,.str [],i6 0,.str []],[]⟩,ST 4 23 103] ((C.draw (DT.uni ⟨some 104,none,.call 73 true,[]⟩ (DT.one
 ⟨some 105,none,.fldA 0,[.t 23]⟩ (DT.one ⟨some 106,none,.load none,[.t 105]⟩ (DT.one ⟨some 107,none,.aidx 4 1 none,[.t 104,.t 106]⟩ (DT.one ⟨some 108,none,.load (some 4),[.t 4]⟩
 (DT.one ⟨some 109,none,.load (some 3),[.t 20]⟩ (DT.one ⟨some 110,none,.load (some 4),[.t 23]⟩ (DT.uni ⟨some 111,none,.callv,[.t 107,.t 108,.t 109,.t 110]⟩ (DT.one ⟨some
 112,none,.len,[.t 111]⟩ (DT.one ⟨some 113,none,.mv,[.c (i6 0)]⟩ DT.nil))))))))))).seq (C.block 7 (vS [BI 114 .lss 113 112] ((vU 114 7).seq ((C.block 8 (vS [O2 115 (.idxA 7) 111
 113,O1 116 (.load (some 7)) 115,⟨some 25,none,.alloc 12 131 [.str [],.str [],.str [],i6 0,i6 0,.str [],i6 0],[]⟩,ST 7 25 116] (vW [LD 117 17,O1 118 (.load (some 7)) 25,LD 119
 19,MV 120 13,LD 121 19,O2 122 (.idxA 1) 120 121,LD 123 122,ON 124 .callv [.t 117,.t 118,.t 119,.t 123]]))).seq (vW [vN 125 .add 113 1,MV 113 125])))).loop)))))))))))).seq (vW
 [vN 149 .add 80 1,MV 80 149])))).loop)).seq ((vS [LD 150 16,O1 151 .len 150,vN 152 .gtr 151 1024] (vT 152 (vV [ON 8 (.nilo 1 7 133) [],vM 9 4]))).seq (vV [LD 153 16,MV 8 153,vM
 9 0])))))))))))))
theorem UV:qK Tryz.prog 17 154 16 [RV.tmp 8,RV.tmp 9] qfh:=fi Tryz.f17 [4,8,51,16,17,77,78,19,20,21,22,23,25,54,69,10] qpK [16]
end
