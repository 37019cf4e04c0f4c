import Derived.Test.YtiiegfkjmnoijaaGreatDoorK17
import Derived.Test.YtiiegfkjmnoijaaGreatDoorK9
import Derived.Test.YtiiegfkjmnoijaaGreatDoorK3
import Derived.Test.YtiiegfkjmnoijaaGreatDoorK5
import Derived.Test.YtiiegfkjmnoijaaGreatDoorK8
import Derived.Test.YtiiegfkjmnoijaaGreatDoorProg
import Derived.Test.YtiiegfkjmnoijaaGreatDoorK12
import Derived.Test.YtiiegfkjmnoijaaGreatDoorRows
import Derived.LaidLaws
import Derived.OpenShut
set_option linter.all false
set_option maxHeartbeats 256000000
set_option maxRecDepth 100000
section
open Go Go.Proofs AF HY LN
namespace RC
def gDe(d:List Dc)(i:Nat):Bool:=decide (80<(d.getD i default).txt.length)||decide (20<(d.getD i default).sig.length)
def qrM(d:List Dc):Bool:=jp (gDe d) d.length||decide (8<d.length)
theorem qBo(b:List Dc)(h:wh)(hn:b.length<=9223372036854775807):ACalls Tryz.prog 110 [kz b] h (.bool (qrM b)) h:=by
 obtain⟨R,hR⟩:=wg (qrM b)
 rw[<-hR];unfold qrM at hR;have zb:kz b= .sl b.length λi=>dcC (b.getD i default):=rfl
 refine acO qwz ?_;simp (disch:=omega) only[quO,go_sem];refine qu (T:=λi:Nat=>zf 29 [(0,kz b),(3,.int .i64 i)]) (H:=λ_=>h) (inv:=λi=>i<=b.length∧ ∀j,j<i->gDe b j=false) (m:=λi=>b.length-i) 0 ⟨nzl _,λj hj=>absurd hj (nnz j)⟩ (Wk.temps ?_) ?_
 ·(simp only[go_sem,qg,qc,qb,qf];try exact we)
 rintro i ⟨i1,i2⟩ K hK
 by_cases hi:i<b.length
 ·have k1:((i:Int)<b.length)=True:=wj;have k0:(0<=(i:Int))=True:=wj;have hit:gDe b i=true->R=true:=λhc=>by rw[hR,qR.2 ⟨i,hi,hc⟩];rfl
  have i3:=λhc=>SA (p:=gDe b) i2 hc
  have hG:gDe b i=(decide (80<(b.getD i default).txt.length)||decide (20<(b.getD i default).sig.length)):=rfl;obtain⟨w,hw⟩:=wg (b.getD i default)
  have ew:=hw.symm;rw[ew]at hG
  by_cases g1:80<w.txt.length
  ·have q1:((80:Int)<w.txt.length)=True:=wj;rw[hit (by rw[hG,dqt g1];rfl)];simp (disch:=omega) only[zb,dcC,k0,k1,ew,q1,go_sem]
   repeat' first|exact wc|with_reducible apply aiA|exact clz|fail
  have q1:((80:Int)<w.txt.length)=False:=wm
  by_cases g2:20<w.sig.length
  ·have q2:((20:Int)<w.sig.length)=True:=wj;rw[hit (by rw[hG,dqt g2,Bool.or_true])];simp (disch:=omega) only[zb,dcC,k0,k1,ew,q1,q2,go_sem]
   repeat' first|exact wc|with_reducible apply aiA|exact clz|fail
  have q2:((20:Int)<w.sig.length)=False:=wm;simp (disch:=omega) only[zb,dcC,k0,k1,ew,q1,q2,go_sem]
  repeat' first|with_reducible apply aiA|exact clz|fail
  refine hK _ _ (i+1) ⟨hi,i3 (by rw[hG,dqf g1,dqf g2];rfl)⟩ om (Wk.temps ?_)
  (simp only[zb,dcC,go_sem,qg,qc,qb,qf];try exact we)
 obtain rfl:i=b.length:=by omega
 have k1:((b.length:Int)<b.length)=False:=wm;rw[qt.2 (λj hj=>i2 j hj),Bool.false_or]at hR
 by_cases g:8<b.length
 ·have q:((8:Int)<b.length)=True:=wj;rw[dqt g]at hR;rw[hR];simp (disch:=omega) only[zb,k1,q,go_sem]
  repeat' first|exact wc|fail
 ·have q:((8:Int)<b.length)=False:=wm;rw[dqf g]at hR;rw[hR];simp (disch:=omega) only[zb,k1,q,go_sem]
  repeat' first|exact wc|fail
theorem qyg{d:List Dc}(h:qrM d=false):d.length<=8∧(∀j,(d.getD j default).sig.length<=1000000)∧ ∀o∈d,o.txt.length<=1000:=by
 unfold qrM at h;rw[Bool.or_eq_false_iff,decide_eq_false_iff_not]at h;have key: ∀i,i<d.length-> ¬80<(d.getD i default).txt.length∧ ¬20<(d.getD i default).sig.length:=λi hi=>by
  have:=qt.1 h.1 i hi
  unfold gDe at this;rw[Bool.or_eq_false_iff,decide_eq_false_iff_not,decide_eq_false_iff_not]at this;exact this
 refine⟨om,jf d (λd=>d.sig.length<=1000000) (by decide) λi hi=>by have:=(key i hi).2;omega,λo ho=> ?_⟩;obtain⟨i,hi,rfl⟩:=List.getElem_of_mem ho
 have:=(key i hi).1
 rw[gdqA,zn hi]at this;simp only[Option.getD_some]at this;omega
theorem qlz{x:Co}(hc:x.col.length<=1000000)(hs:x.sig.length<=1000000):qbx (T8 x):=by
 have hl:(T8 x).length<=x.col.length:=by
  have h1:=qeb (s:=0) (qco x) (d:= []) (by simp) (T8 x).length (nlr _);have h2:=qaF (qco x) (nlr (T8 x).length);omega
 have key: ∀i,qpl ((T8 x).getD i default).rds:=λi=>by
  by_cases hi:i<(rnL x).length
  ·rw[qcm hi];obtain⟨h1,h2,_⟩:=qkC hi;exact qku x (rnL x)[i].1 ((rnL x)[i].2-(rnL x)[i].1) om x.sig.length om
  ·rw[gdqA,List.getElem?_eq_none (by rw[qcn];omega)];have e0:(none.getD default:Un).rds= []:=rfl;exact⟨nzl _,λj=>by rw[e0,List.getD_nil];decide,λj=>by rw[e0,List.getD_nil];decide⟩
 exact⟨om,λi=>(key i).1,λi j=>(key i).2 j,λi j=>(key i).3 j⟩
def quv(x:Co)(d:List Dc):Bool:= !qpX x&&(decide (coE x=0)&& !qrM d)
def nL(x:Co)(q:Nat):Nat:=q%x.sig.length
def qwk(x:Co)(d:List Dc):List Un:=if quv x d=true then T8 x else []
def qwm(x:Co)(d:List Dc)(q:Nat):List Wd:=if quv x d=true then esR x (T8 x) d (nL x q) else []
def qwl(x:Co)(d:List Dc)(q:Nat):Int:=if quv x d=true then (nL x q:Int) else 0
def qwj(x:Co)(d:List Dc)(q:Nat):Bool:=quv x d&&decide (esE x (T8 x) d (nL x q)=0)
theorem qAZ(x:Co)(d:List Dc)(q:Nat)(h:wh)(hq:q<=255)(hp:kY SG h)(hg:jh h frmN frmC)(h1:CoB x)(h2:d.length<=9223372036854775807):
  ACalls Tryz.prog 55 [.agg (coC x),kz d,.int .u8 (q:Int)] h (.tup [zA (qwk x d),jD (qwm x d q),.int .i64 (qwl x d q),.bool (qwj x d q)]) h:=by
 have c1:=λh=>qDb x h h1
 have c3:=λh=>qBo d h h2
 unfold qwk qwm qwl qwj quv;cases e1:qpX x with
 |true=>
  rw[e1]at c1;unfold coC at c1;refine acO qjc ?_;simp (disch:=omega) only[quj,coC,go_sem]
  repeat' first|(refine qj ( .int .i64 0) ?_;simp (disch:=omega) only[go_sem])|(refine cA (c1 _) flk ?_;simp (disch:=omega) only[go_sem])|(apply qa;exact rvk;simp only[go_sem])
  exact VLe.tup ⟨qW,qW,qi,qi,trivial⟩
 |false=>
 obtain⟨o1,o2,o3⟩:=qjh e1;have c2:=λl'=>coR x (h++l') o1 (hp.app l')
 rw[e1]at c1
 by_cases e2:coE x=0
 case neg=>
  have k2:(coE x=0)=False:=eqf e2;rw[dqf e2];obtain⟨E,hE⟩:=wg (coE x)
  simp only[<-hE]at c2 k2;unfold coC at c1 c2;refine acO qjc ?_;simp (disch:=omega) only[quj,coC,go_sem]
  repeat' first|(refine qj ( .bool false) ?_;simp (disch:=omega) only[go_sem])|((first|refine cA (c1 _) ?_ ?_|refine cG (λe=>c2 _) ?_ ?_);exact flk;simp (disch:=omega) only[k2,go_sem])|(apply qa;exact rvk;simp only[go_sem])
  exact VLe.tup ⟨qW,qW,qi,qi,trivial⟩
 rw[dqt e2];simp only[e2]at c2;cases e3:qrM d with
 |true=>
  rw[e3]at c3;unfold coC at c1 c2;refine acO qjc ?_;simp (disch:=omega) only[quj,coC,go_sem]
  repeat' first|((first|refine cA (c1 _) ?_ ?_|refine cG (λe=>c2 _) ?_ ?_|refine cG (λe=>c3 _) ?_ ?_);exact flk;simp (disch:=omega) only[go_sem])|(apply qa;exact rvk;simp only[go_sem])
  exact VLe.tup ⟨qW,qW,qi,qi,trivial⟩
 |false=>
 rw[e3]at c3;obtain⟨d1,d2,d3⟩:=qyg e3;have ho:=SU e2;have hsg:=ho.sg;have zu:=qlz (x:=x) om om;have c4:=λl'=>qBU x (h++l') o1 (hp.app l')
 have u1:utR x=T8 x:=by unfold utR;rw[ipo e2]
 have u2:utE x=0:=by unfold utE;rw[ipo e2]
 rw[u1,u2]at c4;have c5:=λl'=>qC4 x (T8 x) d (nL x q) (h++l') o1 zu (hp.app l') hg.app om d3 (λg=>qs3 om d3 g)
 have hnl:nL x q<x.sig.length:=Nat.mod_lt _ hsg.1;have hn1:(q:Int)%(x.sig.length:Int)=(nL x q:Int):=by unfold nL;omega
 have k1:((x.sig.length:Int)=0)=False:=wm;have zg1: ∀g,valL g .len [strs x.sig]= .int .i64 x.sig.length:=λ_=>rfl
 have zg2: ∀g,okL g .len [strs x.sig]=True:=λ_=>eqt trivial
 obtain⟨E,hE⟩:=wg (esE x (T8 x) d (nL x q))
 obtain⟨b,hb⟩:=wg (esR x (T8 x) d (nL x q))
 obtain⟨l,hl⟩:=wg (T8 x)
 obtain⟨n,hn⟩:=wg (nL x q)
 simp only[<-hE,<-hb]at c5;simp only[<-hl,<-hn]at c4 c5 hn1 ⊢;rw[<-hn]at hE hb hnl;rw[<-hl]at hE hb;simp only[<-hE,<-hb,Bool.not_false,Bool.true_and,Bool.and_true,if_true];unfold coC at c1 c2 c4 c5
 by_cases e4:E=0
 ·have k3:(E=0)=True:=eqt e4;rw[dqt e4];refine acO qjc ?_;simp (disch:=omega) only[quj,coC,go_sem]
  repeat' first|((first|refine cA (c1 _) ?_ ?_|refine cG (λe=>c2 _) ?_ ?_|refine cG (λe=>c3 _) ?_ ?_|refine cA (c4 _) ?_ ?_|refine cA (c5 _) ?_ ?_);exact flk;simp (disch:=omega) only[zg1,zg2,k1,k3,hn1,go_sem])|exact wa|with_reducible apply aiA|exact clz|fail
 ·have k3:(E=0)=False:=eqf e4;rw[dqf e4];refine acO qjc ?_;simp (disch:=omega) only[quj,coC,go_sem]
  repeat' first|((first|refine cA (c1 _) ?_ ?_|refine cG (λe=>c2 _) ?_ ?_|refine cG (λe=>c3 _) ?_ ?_|refine cA (c4 _) ?_ ?_|refine cA (c5 _) ?_ ?_);exact flk;simp (disch:=omega) only[zg1,zg2,k1,k3,hn1,go_sem])|exact wa|with_reducible apply aiA|exact clz|fail
theorem qA0{x:Co}{d:List Dc}{q:Nat}(h:qwj x d q=true):qaN x∧(x.col.length<=24∧x.sig.length<=36)∧qbx (T8 x)∧d.length<=8∧(∀j,(d.getD j default).sig.length<=1000000)∧(∀o∈d,o.txt.length<=1000)∧qaQ x (T8 x) d (nL x q)∧
  qwk x d=T8 x∧qwm x d q=bsW (rwA x (T8 x) d (nL x q))∧qwl x d q=(nL x q:Int):=by
 unfold qwj at h;rw[Bool.and_eq_true,decide_eq_true_iff]at h;obtain⟨h1,h2⟩:=h;have h3:=h1;unfold quv at h3;rw[Bool.and_eq_true,Bool.and_eq_true,Bool.not_eq_true',Bool.not_eq_true',decide_eq_true_iff]at h3;obtain⟨a1,a2,a3⟩:=h3;obtain⟨o1,o2,o3⟩:=qjh a1;obtain⟨d1,d2,d3⟩:=qyg a3;obtain⟨_,E⟩:=qwv h2;rw[itn]at E;refine⟨o1,⟨o2,o3⟩,qlz om om,d1,d2,d3,E,?_,?_,?_⟩
 ·unfold qwk;rw[ipo h1]
 ·unfold qwm;rw[ipo h1];unfold esR;rw[ipo h2,itn]
 ·unfold qwl;rw[ipo h1]
theorem k10:kind 10=0:=by decide
theorem qwa{s:Str}(h:zM s=0):(10:UInt8)∉s:=by
 intro hm;rw[qap]at h;split at h
 ·cases h
 ·split at h
  ·cases h
  ·rename_i g;obtain⟨i,hi,e⟩:=List.getElem_of_mem hm;refine g (List.any_eq_true.2 ⟨i,List.mem_range.2 hi,?_⟩);have ec:ch s i=10:=by unfold ch;rw[gdqA,zn hi];exact e
   unfold SN;rw[ec,k10];rfl
theorem que{s:Str}(h:jR s=true):(10:UInt8)∉s:=by
 unfold jR at h;simp only[Bool.and_eq_true,decide_eq_true_eq]at h;exact qwa h.1.1.2
theorem qyy{s:Str}(h:qp4 s=true):(10:UInt8)∉s:=by
 unfold qp4 at h;rw[Bool.and_eq_true,decide_eq_true_iff]at h;obtain⟨h1,h2⟩:=h
 match s,h1 with
 | [c],_=>
  intro hm;rw[List.mem_singleton]at hm;subst hm;have e:ch [10] 0=10:=rfl;rw[e,k10]at h2;simp at h2
theorem qjy{n:Int}(h0:0<=n):(10:UInt8)∉Lib.itoa n:=by
 obtain⟨u,rfl⟩: ∃u:Nat,n=u:=⟨n.toNat,om⟩
 rw[Lib.itoa_nonneg];intro hm
 have:=qbd u 10 hm
 have e:(10:UInt8).toNat=10:=rfl;omega
theorem qyf{s:Str}(h:qbN s=true):(10:UInt8)∉s:=by
 unfold qbN at h;obtain⟨k,_,hk⟩:=List.any_eq_true.1 h;rw[of_decide_eq_true hk];intro hm;rcases List.mem_cons.1 hm with e|hm
 ·revert e;decide
 rcases List.mem_append.1 hm with hm|hm
 ·exact qjy om hm
 ·rw[List.mem_singleton]at hm;revert hm;decide
theorem qBP{t:Tk}(h:tkE t=0):(10:UInt8)∉t.text:=by
 unfold tkE at h;split at h
 ·cases h
 split at h
 ·cases h
 split at h
 ·cases h
 rename_i g;have g:txB t=true:=by cases hx:txB t with
  |true=>rfl
  |false=>exact absurd hx g
 unfold txB at g;split at g
 ·rw[Bool.and_eq_true]at g;exact qyf g.1
 split at g
 ·rw[Bool.and_eq_true]at g;exact qyy g.1
 ·rw[Bool.and_eq_true]at g;exact que g.1
theorem qjI{s:Str}(h:j8 s=true):(10:UInt8)∉s:=by
 unfold j8 at h;rw[Bool.and_eq_true,Bool.and_eq_true,decide_eq_true_iff,decide_eq_true_iff,decide_eq_true_iff]at h;intro hm
 have:=List.countP_eq_length.1 h.2.2 10 hm
 revert this;decide
theorem qte{s:Str}(h:qfg s=true):(10:UInt8)∉s:=by
 unfold qfg at h;split at h
 ·rename_i g;unfold qdD at g;rw[Bool.and_eq_true,decide_eq_true_iff,decide_eq_true_iff]at g;rw[Bool.and_eq_true]at h;intro hm;rw[<-List.take_append_drop (s.length-1) s,g.2]at hm;rcases List.mem_append.1 hm with hm|hm
  ·exact qjI h.1 hm
  ·rw[List.mem_singleton]at hm;revert hm;decide
 ·exact qjI h
theorem qkQ{x:Co}(h:coE x=0){s:Nat}(hs:s<x.sig.length):qfg (x.sig.getD s [])=true:=by
 have h1:srE x=0:=by
  unfold coE at h;split at h
  ·rename_i e;exact absurd h e
  ·rename_i e;exact Classical.not_not.1 e
 have h2:SE (jE x.sig) 0 x.sig.length=0:=by
  unfold srE at h1;split at h1
  ·cases h1
  split at h1
  ·cases h1
  split at h1
  ·cases h1
  split at h1
  ·rename_i e;exact absurd h1 e
  ·rename_i e;exact Classical.not_not.1 e
 have h3:=jq.1 h2 s hs;unfold jE at h3;split at h3
 ·cases h3
 rename_i g;cases hx:qfg (x.sig.getD s [])with
 |true=>rfl
 |false=>exact absurd hx g
theorem qzj{x:Co}(h:coE x=0){s:Nat}(hs:s<x.sig.length):(10:UInt8)∉x.sig.getD s []:=qte (qkQ h hs)
theorem qzi{x:Co}(h:coE x=0){s:Nat}(hs:s<x.sig.length):(x.sig.getD s []).length<=16:=by
 have h1:=qkQ h hs;unfold qfg at h1;split at h1
 ·rw[Bool.and_eq_true,decide_eq_true_iff]at h1;exact h1.2
 ·unfold j8 at h1;rw[Bool.and_eq_true,Bool.and_eq_true,decide_eq_true_iff]at h1;exact of_decide_eq_true h1.2.1
theorem qtq{s:Str}(h:zM s=0){t:Tk}(ht:t∈qaZ s):(10:UInt8)∉t.text:=by
 intro hm;refine qwa h ?_;have h1:(10:UInt8)∈((qaZ s).map Tk.text).flatten:=List.mem_flatten.2 ⟨t.text,List.mem_map_of_mem ht,hm⟩;rw[qo4]at h1;exact (List.mem_filter.1 h1).1
theorem qAU{x:Co}{l:List Un}{d:List Dc}{s:Nat}(h:qaQ x l d s): ∀r∈rwA x l d s,(10:UInt8)∉r.p.t.text:=by
 have hs0: ∀t f n,t<x.sig.length->f+n<=x.col.length-> ∀p∈spk x t f n,(10:UInt8)∉p.t.text:=by
  intro t f n ht hn p hp;obtain⟨c,c1,c2,c3,c4⟩:=qbS.1 hp;rw[c4];exact qBP (qj6 h.co ht om c3).1
 have hc: ∀f t,t<=x.col.length-> ∀r∈rwC x s f t,(10:UInt8)∉r.p.t.text:=by
  intro f t ht r hr;unfold rwC at hr;obtain⟨h1,_⟩:=zV.1 hr
  by_cases g:f<=t
  ·exact hs0 s f (t-f) h.sl om _ h1
  ·rw[show t-f=0 by omega]at h1;cases h1
 have hl: ∀k,k<=l.length-> ∀r∈rwL x l d s k,(10:UInt8)∉r.p.t.text:=by
  intro k
  induction k with
  |zero=>intro _ r hr;cases hr
  |succ k ih=>
   intro hk r hr;obtain⟨_,_,u3,u4,_⟩:=kX h.us (k:=k) om;unfold rwL at hr;rcases List.mem_append.1 hr with hr|hr
   ·exact ih om r hr
   rcases List.mem_append.1 hr with hr|hr
   ·exact hc _ _ om r hr
   ·unfold rwU at hr;split at hr
    ·obtain⟨h1,_⟩:=zV.1 hr;exact hs0 s _ _ h.sl om _ h1
    ·rename_i g;obtain⟨h1,_,_⟩:=zV.1 hr;obtain⟨c1,c2,c3⟩:=qjA h g;obtain⟨_,_,_,p4,_,p6⟩:=Sm c2;unfold qg8 at h1;split at h1
     ·obtain⟨_,t2,_⟩:=qbv p4;exact hs0 _ _ _ t2 om _ h1
     ·split at h1
      ·rename_i e2;obtain⟨t,t1,e⟩:=List.mem_map.1 h1;rw[<-e];exact qtq (qeM p6 e2).1 t1
      ·cases h1
 intro r hr;unfold rwA at hr;rcases List.mem_append.1 hr with hr|hr
 ·exact hl _ (nlr _) r hr
 ·exact hc _ _ (nlr _) r hr
theorem qrm{x:Co}{l:List Un}{d:List Dc}{s:Nat}(h:qaQ x l d s){j:Nat}(hj:j<d.length):(10:UInt8)∉(d.getD j default).sig:=by
 obtain⟨_,_,_,p4,_⟩:=Sm (h.pl j hj);obtain⟨_,t2,t3,_⟩:=qbv p4;rw[<-t3];exact qzj h.ca t2
theorem B2{a b:Str}(h1:(10:UInt8)∉a)(h2:(10:UInt8)∉b):(10:UInt8)∉a++b:=λh=>(List.mem_append.1 h).elim h1 h2
theorem qsp{L:List Str}(h: ∀s∈L,(10:UInt8)∉s):(10:UInt8)∉Lib.joinTail [32] L:=by
 induction L with
 |nil=>simp[Lib.joinTail]
 |cons a L ih=>
  have e:Lib.joinTail [32] (a::L)=([32]++a)++Lib.joinTail [32] L:=by simp[Lib.joinTail]
  rw[e];exact B2 (B2 (by decide) (h a (List.mem_cons_self ..))) (ih λs hs=>h s (List.mem_cons_of_mem _ hs))
theorem qso{L:List Str}(h: ∀s∈L,(10:UInt8)∉s):(10:UInt8)∉Lib.join L [32]:=by
 cases L with
 |nil=>simp[Lib.join_nil]
 |cons a L=>
  rw[Lib.join_cons];exact B2 (h a (List.mem_cons_self ..)) (qsp λs hs=>h s (List.mem_cons_of_mem _ hs))
theorem qBR{d:List Dc}{w:Wd}(hd:0<=w.dec->w.dec.toNat<d.length∧(10:UInt8)∉(d.getD w.dec.toNat default).sig):(10:UInt8)∉(tlL d w).flatten:=by
 unfold tlL;split
 ·decide
 split
 ·decide
 rename_i g;obtain⟨_,h2⟩:=hd om;have h3:=qjy (n:=w.dec) om;split
 ·simp only[List.flatten_cons,List.flatten_nil,lan];exact B2 (by decide) (B2 h3 (B2 (by decide) h2))
 ·simp only[List.flatten_cons,List.flatten_nil,lan];exact B2 (by decide) (B2 h3 (by decide))
theorem qzr{d:List Dc}{w:Wd}:(tlL d w).flatten= [99,111,109,109,111,110]↔w.unit<0:=by
 unfold tlL;split
 ·rename_i g;exact⟨λ_=>g,λ_=>by decide⟩
 rename_i g;refine⟨λe=> ?_,λe=>absurd e g⟩;split at e
 ·exact absurd e (by decide)
 split at e<;>simp at e
theorem qto{d:List Dc}{w:Wd}:(tlL d w).flatten= [108,101,97,100,105,110,103,32,115,111,117,114,99,101]↔0<=w.unit∧w.dec<0:=by
 unfold tlL;split
 ·rename_i g;exact⟨λe=>absurd e (by decide),λe=>by omega⟩
 rename_i g;split
 ·rename_i g2;exact⟨λ_=>⟨om,g2⟩,λ_=>by decide⟩
 rename_i g2;refine⟨λe=> ?_,λe=>absurd e.2 g2⟩;split at e<;>simp at e
end RC
end
section
open Go Go.Proofs AF
def qr4:List Nat:= []
theorem qA9:qM Tryz.prog 63 9 0 [RV.tmp 4] (cCT 120):=fi Tryz.f63 [] qr4 []
end
section
open Go Go.Proofs AF HY LN
namespace RC
theorem qrQ(p r:Str)(h:wh):ACalls Tryz.prog 161 [.str (p++r),.str p] h (.bool true) h:=by
 have k1:((p.length:Int)<=((p++r).length:Nat))=True:=eqt (by rw[lap];omega);have k2:List.take (p.length-0) (p++r)=p:=List.take_left' rfl;have k3:(p=p)=True:=eqt rfl;obtain⟨s,hs⟩:=wg (p++r)
 rw[<-hs]at k1 k2 ⊢;refine acO qwX ?_;simp (disch:=omega) only[qva,k1,k2,go_sem]
 repeat' first|exact wc|with_reducible apply aiA|exact clz|fail
theorem qAJ(p r:Str)(h:wh):ACalls Tryz.prog 119 [.str (p++r),.str p] h (.tup [.str r,.bool true]) h:=by
 have c1:=λh=>qrQ p r h
 have k1:((p.length:Int)<=((p++r).length:Nat))=True:=eqt (by rw[lap];omega);have k2:List.take ((p++r).length-p.length) (List.drop p.length (p++r))=r:=by rw[List.drop_left' rfl];exact ltl (by rw[lap];omega)
 obtain⟨s,hs⟩:=wg (p++r)
 rw[<-hs]at k1 k2 c1 ⊢;refine acO qwC ?_;simp (disch:=omega) only[quR,go_sem]
 repeat' first|(refine cA (c1 _) flk ?_;simp (disch:=omega) only[k1,k2,go_sem])|exact wc|with_reducible apply aiA|exact clz|fail
theorem qC2(p r:Str)(h:wh):ACalls Tryz.prog 62 [.str (p++r),.str p] h (.tup [.str r,.bool true]) h:=by
 have c1:=λh=>qAJ p r h
 refine acO qA8 ?_;simp (disch:=omega) only[qCg,go_sem]
 repeat' first|(refine cA (c1 _) flk ?_;simp (disch:=omega) only[go_sem])|exact wc|with_reducible apply aiA|exact clz|fail
theorem ctX(s:Str)(h:wh)(hn:(10:UInt8)∉s):ACalls Tryz.prog 63 [.str s,.str [10]] h (.bool false) h:=by
 have c1:=λh=>qDX s 10 h
 have hi:Go.Lib.indexByte s 10= -1:=by
  rcases Int.lt_or_le (Go.Lib.indexByte s 10) 0 with g|g
  ·have:=Go.Lib.indexByte_ge s 10
   omega
  ·obtain⟨o,ho⟩: ∃o:Nat,Go.Lib.indexByte s 10=o:=⟨(Go.Lib.indexByte s 10).toNat,om⟩
   exact absurd (List.mem_of_getElem? (Go.Lib.indexByte_some ho).1) hn
 rw[hi]at c1;have k1:(0<=(-1:Int))=False:=wm;refine acO qA9 ?_;simp (disch:=omega) only[cCT,go_sem]
 repeat' first|(refine cA (c1 _) flk ?_;simp (disch:=omega) only[k1,go_sem])|exact wc|fail
end RC
end
section
open Go Go.Proofs AF
def qr3:List Nat:= []
def qAm:C:=
 (vU [O1 3 (.box 0 26) 0,MC 6 (.bool false)] (vU [O1 24 (.load (some 4)) 3,MV 25 1,MV 26 2,ON 27 (.call 55 true) [.t 24,.t 25,.t 26],MV 23 27,O1 28 (.ext 0) 23,O1 29 (.ext 1)
 23,O1 30 (.ext 2) 23,O1 31 (.ext 3) 23,MV 7 28,MV 8 29,MV 9 30,MV 10 31] ((vU [MV 32 10,O1 33 (.un UnOp.not) 32] (vV 33 (vX [ON 34 (.call 56 true) [],MV 6 34]))).seq ((vU [MV
 35 8,O1 36 .len 35,vO 37 0] (C.block 0 (vU [BI 38 .lss 37 36] ((vW 38 0).seq ((C.block 1 (vU [MV 39 37,O2 40 (.idxA 7) 35 37,O1 41 (.load (some 7)) 40,⟨some 12,none,.alloc 1 36
 [.str [],i6 0,i6 0,i6 0,.bool false,.bool false,.str []],[]⟩,MV 11 39,ST 7 12 41] (vU [O1 43 (.load (some 4)) 3,MV 44 7,MV 45 1,MV 46 8,MV 47 11,ON 48 (.call 60 true) [.t 43,.t
 44,.t 45,.t 46,.t 47],MV 42 48,O1 49 (.ext 0) 42,O1 50 (.ext 1) 42,MV 13 49,MV 14 50] (vU [O1 52 (.load (some 4)) 3,MV 53 7,MV 54 8,MV 55 11,ON 56 (.call 19 true) [.t 52,.t
 53,.t 54,.t 55],MV 51 56,O1 57 (.ext 0) 51,O1 58 (.ext 1) 51,MV 15 57,MV 16 58] ((vU [MV 59 14,vP 60 .neq 59 0,MV 61 60,vS 62 61 16,vT 63 61 (.bin .neq) 62 (i6 0),PT 64 61 63]
 (vV 64 (vX [MC 6 (.bool false)]))).seq (vU [ON 17 (.nilo 2 1 9) []] ((vU [MV 65 15,O1 66 .len 65,vO 67 0] (C.block 2 (vU [BI 68 .lss 67 66] ((vW 68 2).seq ((C.block 3 (vU [O2
 69 (.idxA 1) 65 67,LD 70 69,MV 19 70] ((vU [MV 71 19,vP 72 .lss 71 0,MV 73 72,vS 74 73 19,v7 75 73 1 3,v8 76 73 75,vQ 77 73 .len 76,vR 78 73 (.bin .geq) 74 77,PT 79 73 78] (vV
 79 (vX [MC 6 (.bool false)]))).seq (vY [MV 80 17,vN 81 1 3,LD 82 81,MV 83 19,O2 84 (.idxA 1) 82 83,LD 85 84,⟨some 86,none,.bslc 3 1 1 9 [.str []] [(0,1)],[.t 85]⟩,O2 87 (.app 4
 1 9 16) 80 86,MV 17 87])))).seq (vY [vP 88 .add 67 1,MV 67 88])))).loop)).seq (vU [MV 89 17,OC 90 (.call 61 true) 89 (.str [32]),MV 20 90] ((vU [MV 91 15,O1 92 .len 91,vP 93
 .eql 92 0] (vV 93 (vY [MC 20 (.str [110,111,32,115,111,117,114,99,101])]))).seq (vU [MV 95 13,vN 96 0 12,LD 97 96,BC 98 .add 97 (.str [58,32]),MV 99 20,BI 100 .add 98 99,BC 101
 .add 100 (.str [59,32]),O2 102 (.call 62 true) 95 101,MV 94 102,O1 103 (.ext 0) 94,O1 104 (.ext 1) 94,MV 21 103,MV 22 104] (vU [MV 105 22,O1 106 (.un UnOp.not) 105,MV 107
 106,vS 108 107 21,vT 109 107 (.bin .eql) 108 (.str [99,111,109,109,111,110]),v7 110 107 2 12,v8 111 107 110,vT 112 107 (.bin .lss) 111 (i6 0),vR 113 107 (.bool true) 109 112,PT
 114 107 113,MV 115 114,vS 116 115 21,vT 117 115 (.bin .eql) 116 (.str [108,101,97,100,105,110,103,32,115,111,117,114,99,101]),v7 118 115 2 12,v8 119 115 118,vT 120 115 (.bin
 .geq) 119 (i6 0),vS 121 115 120,P1 122 121 true (.fldA 3) 12,P1 123 121 true (.load none) 122,PC 124 121 true (.bin .lss) 123 (i6 0),QF 125 115 false 121 124,vR 126 115 (.bool
 true) 117 125,PT 127 115 126,MV 128 127,vS 129 128 13,vT 130 128 (.call 63 true) 129 (.str [10]),PT 131 128 130] (vV 131 (vX [MC 6 (.bool false)]))))))))))))).seq (vY [vP 132
 .add 37 1,MV 37 132])))).loop)).seq (vX [ON 133 (.call 56 true) [],MV 6 133])))))
theorem qwI:qM Tryz.prog 12 134 5 [RV.tmp 6] qAm:=fi Tryz.f12 [3,12,17,86,87] qr3 []
end
section
open Go Go.Proofs AF HY LN
namespace RC
theorem qyu(x:Co)(d:List Dc)(q:Nat)(h:wh)(hq:q<=255)(hp:kY SG h)(hg:jh h frmN frmC)(h1:CoB x)(h2:d.length<=9223372036854775807):
  ACalls Tryz.prog 12 [.agg (coC x),kz d,.int .u8 (q:Int)] h (.bool true) h:=by
 have c1:=λl'=>qAZ x d q (h++l') hq (hp.app l') hg.app h1 h2
 have c2:=λl'=>qAh (h++l') (hp.app l')
 obtain⟨B,hB⟩:=wg (qwj x d q)
 obtain⟨l,hl⟩:=wg (qwk x d)
 obtain⟨b,hb⟩:=wg (qwm x d q)
 obtain⟨nn,hnn⟩: ∃n,n=qwl x d q:=⟨_,rfl⟩
 simp only[<-hB,<-hl,<-hb,<-hnn]at c1;unfold coC at c1;cases B with
 |false=>
  refine acO qwI ?_;simp (disch:=omega) only[qAm,coC,go_sem]
  repeat' first|((first|refine cA (c1 _) ?_ ?_|refine cA (c2 _) ?_ ?_);exact flk;simp (disch:=omega) only[go_sem])|exact wa|with_reducible apply aiA|exact clz|fail
 |true=>
 obtain⟨o1,⟨o2,o3⟩,zu,d1,d2,d3,E,e1,e2,e3⟩:=qA0 hB.symm;rw[<-hl]at e1;rw[<-hb]at e2;rw[<-hnn]at e3;obtain⟨m,hm⟩:=wg (nL x q)
 rw[<-hm]at E e2 e3;rw[<-e1]at E e2 zu;subst e3;have hsl:=E.sl;have ho:=E.co;have hln:=E.ln;have hlen:b.length=(rwA x l d m).length:=by rw[e2,km]
 have hpv:=qAV E;have F:=λi (hi:i<(rwA x l d m).length)=>qmY E hi rfl
 rw[<-e2]at hpv F;have ht: ∀i,(b.getD i default).text.length<=1000000000:=jf b (λw=>w.text.length<=1000000000) (by decide) λi hi=>by have:=(F i om).2.1.2;omega
 have zb0:jD b= .sl b.length λi=>wdC (b.getD i default):=rfl
 have zb1: ∀g,valL g .len [jD b]= .int .i64 b.length:=λ_=>rfl
 have zb2: ∀g,okL g .len [jD b]=True:=λ_=>eqt trivial
 have zl1: ∀g,valL g .len [zA l]= .int .i64 l.length:=λ_=>rfl
 have zl2: ∀g,okL g .len [zA l]=True:=λ_=>eqt trivial
 have zs1: ∀g,valL g .len [strs x.sig]= .int .i64 x.sig.length:=λ_=>rfl
 have zs2: ∀g,okL g .len [strs x.sig]=True:=λ_=>eqt trivial
 have hsl1: ∀s,(x.sig.getD s []).length<=1000:=λs=>by
  by_cases g:s<x.sig.length
  ·have:=qzi E.ca g;omega
  ·rw[gdqA,List.getElem?_eq_none om];exact nzl _
 have hnn:=qAU E;have hbt: ∀i,i<b.length->(10:UInt8)∉(b.getD i default).text:=λi hi=>by
  rw[e2,qdI om];exact hnn _ (zJ om)
 have hdn:=λj (hj:j<d.length)=>qrm E hj
 have hsn:=λs (hs:s<x.sig.length)=>qzj E.ca hs
 refine acO qwI ?_;simp (disch:=omega) only[qAm,coC,go_sem]
 repeat' first|(refine cA (c1 _) flk ?_;simp (disch:=omega) only[zb1,zb2,go_sem])|with_reducible apply aiA|exact clz|fail
 refine qu (T:=λi:Nat×AObj×AObj×AObj=>zf 134 [(1,kz d),(3,.op h.length 1 0),(7,zA l),(8,jD b),(35,jD b),(36,.int .i64 b.length),(37,.int .i64 i.1)])
  (H:=λi=>h++ [.mem 1 26 (coC x),i.2.1,i.2.2.1,i.2.2.2,.emp 0])
  (inv:=λi=>i.1<=b.length∧qJ [i.2.1] 0=true∧qJ [i.2.2.1] 0=true∧qJ [i.2.2.2] 0=true) (m:=λi=>b.length-i.1) (0,.emp 0,.emp 0,.emp 0) ⟨nzl _,rfl,rfl,rfl⟩ (Wk.temps ?_) ?_
 ·(simp only[go_sem,qg,qc,qb,qf];try exact we)
 rintro⟨i,O1,O2,O3⟩ ⟨i1,i2,i3,i4⟩ K hK;simp only at i1 i2 i3 i4 hK;have i2': ∀m,qJ (O1::m) 0=true:=λ_=>i2
 have i3': ∀m,qJ (O2::m) 0=true:=λ_=>i3
 by_cases hi:i<b.length
 case neg=>
  have k1:((i:Int)<b.length)=False:=wm;simp (disch:=omega) only[k1,go_sem]
  repeat' first|(refine cA (c2 _) flk ?_;simp (disch:=omega) only[go_sem])|exact wa|fail
 have k1:((i:Int)<b.length)=True:=wj;have c5:=λl'=>qlb x l b i (h++l') o1 zu om ht om (hp.app l')
 have eS:soE x l b i=0:=by unfold soE;rw[ine (by simp[hpv]),ine om]
 have eL:soL x l b i=soK x l b i:=by unfold soL;rw[ipo eS,itn]
 rw[eS,eL]at c5;obtain⟨sn1,sn2⟩:=qkV hpv (i:=i) hi;have c4:=λl'=>qiR x l d b i (h++l') o1 zu om ht om hsl1 om d2 (hp.app l')
 obtain⟨_,_,⟨f5,f6⟩,_,f8,_⟩:=F i om;have xE:exE x l d b i=0:=by unfold exE;rw[ine (by simp[hpv]),ine om,itn,ine om]
 have xR:exR x l d b i=qrv x d (b.getD i default) (soK x l b i):=by unfold exR;rw[ipo xE,itn]
 rw[xE,xR]at c4;have hwt:=ht i;have hwn:=hbt i hi;obtain⟨S,hS⟩:=wg (soK x l b i)
 rw[<-hS]at sn1 sn2;simp only[<-hS]at c5 c4;obtain⟨w,hw⟩:=wg (b.getD i default)
 have ew:=hw.symm;simp only[ew]at f5 f6 f8 hwt hwn c4;obtain⟨tl,htl⟩: ∃t,t=(tlL d w).flatten:=⟨_,rfl⟩
 have tn:(10:UInt8)∉tl:=by rw[htl];exact qBR λe=>⟨om,hdn _ om⟩
 have t1:=qzr (d:=d) (w:=w);have t2:=qto (d:=d) (w:=w);rw[<-htl]at t1 t2;obtain⟨nm,hnm⟩: ∃t,t=Lib.join (nmN x S) [32]:=⟨_,rfl⟩
 have nn1:(10:UInt8)∉nm:=by
  rw[hnm];refine qso λs hs=> ?_
  unfold nmN at hs;split at hs
  ·rw[List.mem_singleton]at hs;subst hs;decide
  ·unfold joN at hs;obtain⟨a,ha,rfl⟩:=List.mem_map.1 hs;exact hsn _ (by have:=sn2 a ha;omega)
 have eT:qrv x d w S=(((w.text++ [58,32])++nm)++ [59,32])++tl:=by
  unfold qrv;rw[<-hnm,<-htl];simp
 obtain⟨T,hT⟩:=wg (qrv x d w S)
 have hTn:(10:UInt8)∉T:=by
  rw[hT,eT];exact B2 (B2 (B2 (B2 hwn (by decide)) nn1) (by decide)) tn
 simp only[<-hT]at c4;have a1:(w.text++ [58,32]).length=w.text.length+2:=by rw[lap];rfl
 have a2:((w.text++ [58,32])++nm).length=w.text.length+2+nm.length:=by rw[lap,a1]
 have hnl:nm.length<=1000000000:=by
  have:=qdZ [32] 1000 (nmN x S) (λs hs=>by
   unfold nmN at hs;split at hs
   ·rw[List.mem_singleton]at hs;subst hs;decide
   ·unfold joN at hs;obtain⟨a,_,rfl⟩:=List.mem_map.1 hs;exact hsl1 _)
  have h6:(nmN x S).length<=37:=by
   unfold nmN;split
   ·decide
   ·unfold joN;rw[List.length_map];omega
  rw[<-hnm]at this;have h5:(nmN x S).length*(0+1+1000)<=37*1001:=Nat.mul_le_mul h6 om;simp only[lco,lnl]at this;omega
 have c9:=λh=>qC2 (((w.text++ [58,32])++nm)++ [59,32]) tl h
 rw[<-eT,<-hT]at c9;have c10:=λh=>ctX T h hTn
 have zS0:qy S= .sl S.length λj=> [.int .i64 (S.getD j 0)]:=rfl
 have zS1: ∀g,valL g .len [qy S]= .int .i64 S.length:=λ_=>rfl
 have zS2: ∀g,okL g .len [qy S]=True:=λ_=>eqt trivial
 unfold coC at c5 c4;simp (disch:=omega) only[zb0,wdC,coC,k1,ew,i2',go_sem]
 repeat' first|((first|refine cA (c4 _) ?_ ?_|refine cA (c5 _) ?_ ?_);exact flk;simp (disch:=omega) only[i3',zS1,zS2,go_sem])|with_reducible apply aiA|exact clz|fail
 refine qu (T:=λn:Nat×Nat×AObj=>zf 134 [(1,kz d),(3,.op h.length 1 0),(7,zA l),(8,jD b),(12,.op (h.length+1) (qn (some O1)+1) 0),(13,.str T),(15,qy S),(17,.osl (h.length+2) n.2.1 1 0 n.1),(35,jD b),(36,.int .i64 b.length),(37,.int .i64 i),(65,qy S),(66,.int .i64 S.length),(67,.int .i64 n.1)])
  (H:=λn=>h++ [.mem 1 26 (coC x),.mem (qn (some O1)+1) 36 (wdC w),qZ n.2.1 9 (jo (joN x (S.take n.1))),n.2.2,.emp 0])
  (inv:=λn=>n.1<=S.length∧qJ [n.2.2] 0=true) (m:=λn=>S.length-n.1) (0,qn (some O2)+1,O3) ⟨nzl _,i4⟩ (Wk.temps ?_) ?_
 ·(simp only[go_sem,qg,qc,qb,qf];try exact we)
 rintro⟨n,v,P⟩ ⟨n1,n2⟩ K2 hK2;simp only at n1 n2 hK2;have n2': ∀m,qJ (P::m) 0=true:=λ_=>n2
 by_cases hn:n<S.length
 ·have r1:((n:Int)<S.length)=True:=wj;have hTk:S.take (n+1)=S.take n++ [S.getD n 0]:=by
   rw[List.take_add_one,zn hn,gdqA,zn hn];rfl
  have hJ:joN x (S.take (n+1))=joN x (S.take n)++ [x.sig.getD (S.getD n 0).toNat []]:=by unfold joN;rw[hTk,List.map_append];rfl
  have hJl:(joN x (S.take n)).length=n:=by unfold joN;rw[List.length_map,List.length_take];omega
  obtain⟨s0,s1⟩:=sn2 (S.getD n 0) (zJ hn);obtain⟨y,hy⟩:=wg (S.getD n 0)
  have ey:=hy.symm;rw[ey]at hJ s0 s1;obtain⟨L,hL⟩:=wg (joN x (S.take n))
  rw[<-hL]at hJ hJl ⊢;have eC:=jH L;rw[hJl]at eC;have eTk:List.take n (jo L)=jo L:=ltl om;have zg0:strs x.sig= .sl x.sig.length λj=> [.str (x.sig.getD j [])]:=rfl
  have r2:(y<0)=False:=wm;have r3:((x.sig.length:Int)<=y)=False:=wm;have r4:(y<(x.sig.length:Int))=True:=wj;have r5:(0<=y)=True:=eqt s0;simp (disch:=omega) only[zS0,coC,r1,ey,n2',r2,r3,r4,r5,zg0,eC,eTk,Nat.mul_one,go_sem]
  repeat' first|with_reducible apply aiA|exact clz|fail
  have eA:jo L++ [AV.str (x.sig.getD y.toNat [])]=jo (L++ [x.sig.getD y.toNat []]):=by simp[jo]
  try rw[eA]
  refine hK2 _ _ (n+1,v+1,.mem (qn (some P)+1) 9 [.str (x.sig.getD y.toNat [])]) ⟨hn,rfl⟩ (by simp only;omega) ?_;simp only[hJ,coC,wdC];refine Wk.temps ?_
  (simp only[zS0,go_sem,qg,qc,qb,qf];try exact we)
 have r1:((n:Int)<S.length)=False:=wm;obtain rfl:n=S.length:=by omega
 clear hK2;rw[List.take_length];have hJl:(joN x S).length=S.length:=by unfold joN;rw[List.length_map]
 have hjl:(Lib.join (joN x S) [32]).length<=1000000000:=by
  have:=qdZ [32] 1000 (joN x S) (λs hs=>by unfold joN at hs;obtain⟨a,_,rfl⟩:=List.mem_map.1 hs;exact hsl1 _)
  rw[hJl]at this;simp only[lco,lnl]at this;have h5:S.length*(0+1+1000)<=36*1001:=Nat.mul_le_mul om om;omega
 obtain⟨J,hJ⟩:=wg (joN x S)
 rw[<-hJ]at hJl hjl ⊢;have zj:To ([AV.osl (h.length+2) v 1 0 S.length,.str [32]].map (rei (λ_=>true) (h++ [.mem 1 26 (coC x),.mem (qn (some O1)+1) 36 (wdC w),qZ v 9 (jo J),P,.emp 0]) 8)) [strs J,.str [32]]:=by
  simp only[List.map_cons,List.map_nil,rei_osl,if_true,go_sem];exact⟨qaf (λ_=>rfl) hJl.symm,qi,trivial⟩
 have c8:=joB zj hjl om;have nxt:qJ [qZ v 9 (jo J)] 0=true:=site_own0
 by_cases g0:S.length=0
 ·have hS0:S= []:=List.eq_nil_of_length_eq_zero g0;have m0:((S.length:Int)=0)=True:=wj;have hm:nm= [110,111,32,115,111,117,114,99,101]:=by rw[hnm];unfold nmN;rw[ipo hS0];rfl
  rw[hm]at c9 a2 hnl
  by_cases u1:w.unit<0
  ·have m1:(w.unit<0)=True:=eqt u1;have m2:(tl= [99,111,109,109,111,110])=True:=eqt (t1.2 u1);have m3:(tl= [108,101,97,100,105,110,103,32,115,111,117,114,99,101])=False:=eqf (λe=>by have:=(t2.1 e).1;omega);have m4:(0<=w.unit)=False:=wm;simp (disch:=omega) only[r1,coC,wdC,go_sem];refine cA c8 (by exact flk) ?_;simp (disch:=omega) only[zS1,zS2,m0,go_sem]
   repeat' first|((first|refine cA (c9 _) ?_ ?_|refine cG (λe=>c10 _) ?_ ?_);exact flk;simp (disch:=omega) only[m1,m2,m3,m4,go_sem])|(apply qa;exact rvk;simp only[go_sem];apply qd)|(with_reducible first|intro _|apply aiA)|exact clz|fail
   refine hK _ _ (i+1,.mem (qn (some O1)+1) 36 (wdC w),qZ v 9 (jo J),P) ⟨hi,rfl,nxt,n2⟩ (by simp only;omega) ?_;simp only[coC,wdC];refine Wk.temps ?_
   (simp only[go_sem,qg,qc,qb,qf];try exact we)
  have m1:(w.unit<0)=False:=eqf u1;have m2:(tl= [99,111,109,109,111,110])=False:=eqf (λe=>u1 (t1.1 e));have m4:(0<=w.unit)=True:=wj
  by_cases u2:w.dec<0
  ·have m5:(w.dec<0)=True:=eqt u2;have m3:(tl= [108,101,97,100,105,110,103,32,115,111,117,114,99,101])=True:=eqt (t2.2 ⟨om,u2⟩);simp (disch:=omega) only[r1,coC,wdC,go_sem];refine cA c8 (by exact flk) ?_;simp (disch:=omega) only[zS1,zS2,m0,go_sem]
   repeat' first|((first|refine cA (c9 _) ?_ ?_|refine cG (λe=>c10 _) ?_ ?_);exact flk;simp (disch:=omega) only[m1,m2,m3,m4,m5,go_sem])|with_reducible apply aiA|exact clz|fail
   refine hK _ _ (i+1,.mem (qn (some O1)+1) 36 (wdC w),qZ v 9 (jo J),P) ⟨hi,rfl,nxt,n2⟩ (by simp only;omega) ?_;simp only[coC,wdC];refine Wk.temps ?_
   (simp only[go_sem,qg,qc,qb,qf];try exact we)
  ·have m5:(w.dec<0)=False:=eqf u2;have m3:(tl= [108,101,97,100,105,110,103,32,115,111,117,114,99,101])=False:=eqf (λe=>u2 (t2.1 e).2);simp (disch:=omega) only[r1,coC,wdC,go_sem];refine cA c8 (by exact flk) ?_;simp (disch:=omega) only[zS1,zS2,m0,go_sem]
   repeat' first|((first|refine cA (c9 _) ?_ ?_|refine cG (λe=>c10 _) ?_ ?_);exact flk;simp (disch:=omega) only[m1,m2,m3,m4,m5,go_sem])|with_reducible apply aiA|exact clz|fail
   refine hK _ _ (i+1,.mem (qn (some O1)+1) 36 (wdC w),qZ v 9 (jo J),P) ⟨hi,rfl,nxt,n2⟩ (by simp only;omega) ?_;simp only[coC,wdC];refine Wk.temps ?_
   (simp only[go_sem,qg,qc,qb,qf];try exact we)
 ·have hS0:S≠ []:=λe=>g0 (by rw[e];rfl)
  have m0:((S.length:Int)=0)=False:=wm;have hm:Lib.join J [32]=nm:=by rw[hnm,hJ];unfold nmN;rw[ine hS0]
  rw[hm]at c8
  by_cases u1:w.unit<0
  ·have m1:(w.unit<0)=True:=eqt u1;have m2:(tl= [99,111,109,109,111,110])=True:=eqt (t1.2 u1);have m3:(tl= [108,101,97,100,105,110,103,32,115,111,117,114,99,101])=False:=eqf (λe=>by have:=(t2.1 e).1;omega);have m4:(0<=w.unit)=False:=wm;simp (disch:=omega) only[r1,coC,wdC,go_sem];refine cA c8 (by exact flk) ?_;simp (disch:=omega) only[zS1,zS2,m0,go_sem]
   repeat' first|((first|refine cA (c9 _) ?_ ?_|refine cG (λe=>c10 _) ?_ ?_);exact flk;simp (disch:=omega) only[m1,m2,m3,m4,go_sem])|(apply qa;exact rvk;simp only[go_sem];apply qd)|(with_reducible first|intro _|apply aiA)|exact clz|fail
   refine hK _ _ (i+1,.mem (qn (some O1)+1) 36 (wdC w),qZ v 9 (jo J),P) ⟨hi,rfl,nxt,n2⟩ (by simp only;omega) ?_;simp only[coC,wdC];refine Wk.temps ?_
   (simp only[go_sem,qg,qc,qb,qf];try exact we)
  have m1:(w.unit<0)=False:=eqf u1;have m2:(tl= [99,111,109,109,111,110])=False:=eqf (λe=>u1 (t1.1 e));have m4:(0<=w.unit)=True:=wj
  by_cases u2:w.dec<0
  ·have m5:(w.dec<0)=True:=eqt u2;have m3:(tl= [108,101,97,100,105,110,103,32,115,111,117,114,99,101])=True:=eqt (t2.2 ⟨om,u2⟩);simp (disch:=omega) only[r1,coC,wdC,go_sem];refine cA c8 (by exact flk) ?_;simp (disch:=omega) only[zS1,zS2,m0,go_sem]
   repeat' first|((first|refine cA (c9 _) ?_ ?_|refine cG (λe=>c10 _) ?_ ?_);exact flk;simp (disch:=omega) only[m1,m2,m3,m4,m5,go_sem])|with_reducible apply aiA|exact clz|fail
   refine hK _ _ (i+1,.mem (qn (some O1)+1) 36 (wdC w),qZ v 9 (jo J),P) ⟨hi,rfl,nxt,n2⟩ (by simp only;omega) ?_;simp only[coC,wdC];refine Wk.temps ?_
   (simp only[go_sem,qg,qc,qb,qf];try exact we)
  ·have m5:(w.dec<0)=False:=eqf u2;have m3:(tl= [108,101,97,100,105,110,103,32,115,111,117,114,99,101])=False:=eqf (λe=>u2 (t2.1 e).2);simp (disch:=omega) only[r1,coC,wdC,go_sem];refine cA c8 (by exact flk) ?_;simp (disch:=omega) only[zS1,zS2,m0,go_sem]
   repeat' first|((first|refine cA (c9 _) ?_ ?_|refine cG (λe=>c10 _) ?_ ?_);exact flk;simp (disch:=omega) only[m1,m2,m3,m4,m5,go_sem])|with_reducible apply aiA|exact clz|fail
   refine hK _ _ (i+1,.mem (qn (some O1)+1) 36 (wdC w),qZ v 9 (jo J),P) ⟨hi,rfl,nxt,n2⟩ (by simp only;omega) ?_;simp only[coC,wdC];refine Wk.temps ?_
   (simp only[go_sem,qg,qc,qb,qf];try exact we)
end RC
end
section
open Go Go.Proofs AF HY Go.ChangeShapes Go.RowKit
namespace LN
theorem qBl : Tryz.prog.globalNamed "internal/strconv.uint64pow10" = some 3 := by kernel_rfl
theorem qBn : Tryz.prog.globalNamed "strconv.ErrSyntax" = some 7 := by kernel_rfl
theorem qBm : Tryz.prog.globalNamed "strconv.ErrRange" = some 8 := by kernel_rfl
theorem qCr : Tryz.prog.globalNamed "apograph/transcript.forms" = some 4 := by kernel_rfl
theorem qoc{w w':World}(h:qqr w)(e:w'.heap[3]? =w.heap[3]?):qqr w':=by
 unfold qqr Lib.TabIs at*;rw[qcr qBl e];exact h
theorem qdD : "*" ++ "errors.errorString" = "*errors.errorString" := by decide
theorem qqd (u : TypeId) (h : Tryz.prog.typeName? 3 u = some "*errors.errorString") : u = 348 :=
 typeName_ptr_named (nm := "errors.errorString") (by rw [qdD]; kernel_rfl) (by kernel_rfl) (by decide) u (by rw [qdD]; exact h)
structure Fr where
 s:List UInt8
 a:Bool
 b:Bool
 c:Bool
def Fr.av(r:Fr):wi:= [.str r.s,.bool r.a,.bool r.b,.bool r.c]
def Fr.vl(r:Fr):List Value:= [.string ⟨r.s.toArray⟩,.bool r.a,.bool r.b,.bool r.c]
def Fr.da{H:Type}(r:Fr):DataW H:= .agg [.lit (.string r.s),.lit (.bool r.a),.lit (.bool r.b),.lit (.bool r.c)]
def frL:List Fr:= [⟨[],false,false,false⟩,⟨[],true,false,false⟩,⟨[108,98],false,false,false⟩,⟨[112,98],true,false,false⟩,⟨[115,101,99],true,false,false⟩,⟨[118],false,false,false⟩,
 ⟨[103,97,112],false,true,false⟩,⟨[117,110,99,108,101,97,114],false,false,true⟩,⟨[97,100,100],false,true,true⟩,⟨[100,101,108],false,true,true⟩,⟨[97,98],true,false,true⟩,⟨[110,97,109,101],true,false,true⟩]
theorem qx6:RC.frmC=frL.flatMap Fr.av:=rfl
theorem qx7:(YtiiegfkjmnoijaaGreatDoor.Rows.laid_apograph_transcript_forms:DataW Unit)= .agg (frL.map Fr.da):=rfl
theorem qA2{α β:Type}{f:α->List β}(hf: ∀a,(f a).length=4): ∀(l:List α) (i j:Nat),j<4->(l.flatMap f)[i*4+j]? =(l[i]?).bind λa=>(f a)[j]? :=by
 intro l
 induction l with
 |nil=>intro i j _;simp
 |cons a l ih=>
  intro i j hj;rw[List.flatMap_cons];cases i with
  |zero=>
   rw[Nat.zero_mul,Nat.zero_add,List.getElem?_append_left (by rw[hf];exact hj)];rfl
  |succ i=>
   rw[List.getElem?_append_right (by rw[hf];omega),hf,show (i+1)*4+j-4=i*4+j by omega,ih i j hj];rfl
theorem qa9:Tryz.prog.cellsOf 324=4:=by kernel_rfl
theorem qdM:Tryz.prog.cellsOf 325=48:=by kernel_rfl
theorem qmH:Tryz.prog.cellsOf 9=1:=by kernel_rfl
theorem qmF:Tryz.prog.cellsOf 4=1:=by kernel_rfl
theorem qy2{H:Type}{enc:TypeId×Value->H}{w:World}{base fuel:Nat}{spare:Nat->Bool}{held:Bool}{cs:List Value}{x:DataW H×List MemPlace}{r:Fr}
  (h:DataW.trod enc Tryz.prog w base spare held fuel 324 cs=some x) (hx:x.1=r.da):cs=r.vl:=by
 obtain⟨xs,n,_,hxe,hl,hxl,hf⟩:=DataW.trod_struct Tryz.underlying324 h;rw[qa9]at hl
 match cs,hl with
 | [v0,v1,v2,v3],_=>
 match xs,hxl with
 | [y0,y1,y2,y3],_=>
  have h0:DataW.trod enc Tryz.prog w base spare held n 9 (([v0,v1,v2,v3].drop 0).take (Tryz.prog.cellsOf 9))= [y0,y1,y2,y3][0]? :=hf 0 _ rfl;have h1:DataW.trod enc Tryz.prog w base spare held n 4 (([v0,v1,v2,v3].drop 1).take (Tryz.prog.cellsOf 4))= [y0,y1,y2,y3][1]? :=hf 1 _ rfl;have h2:DataW.trod enc Tryz.prog w base spare held n 4 (([v0,v1,v2,v3].drop 2).take (Tryz.prog.cellsOf 4))= [y0,y1,y2,y3][2]? :=hf 2 _ rfl;have h3:DataW.trod enc Tryz.prog w base spare held n 4 (([v0,v1,v2,v3].drop 3).take (Tryz.prog.cellsOf 4))= [y0,y1,y2,y3][3]? :=hf 3 _ rfl;rw[qmH]at h0;rw[qmF]at h1 h2 h3;obtain⟨s,e0,x0,_⟩:=DataW.trod_string Tryz.underlying9 h0;obtain⟨b1,e1,x1⟩:=DataW.trod_bool Tryz.underlying4 h1;obtain⟨b2,e2,x2⟩:=DataW.trod_bool Tryz.underlying4 h2;obtain⟨b3,e3,x3⟩:=DataW.trod_bool Tryz.underlying4 h3;have hy:([y0,y1,y2,y3]:List (DataW H×List MemPlace)).map (·.1)= [.lit (.string r.s),.lit (.bool r.a),.lit (.bool r.b),.lit (.bool r.c)]:=by
   have hx:=hxe▸hx;exact DataW.agg.inj hx
  rw[x0,x1,x2,x3]at hy;simp at hy e0 e1 e2 e3;obtain⟨g0,g1,g2,g3⟩:=hy;unfold Fr.vl;subst e0 e1 e2 e3;rw[<-g0,g1,g2,g3]
theorem qBi {W : World} {rest : List (String × DataW Unit)} (h : laidMet Tryz.prog (("apograph/transcript.forms", YtiiegfkjmnoijaaGreatDoor.Rows.laid_apograph_transcript_forms) :: rest) W) : qfy 4 RC.frmC W := by
 obtain⟨ps,⟨g',t',cs,fuel,p,q,hg',ht',hvar,hd,_,_⟩,_⟩:=h;obtain rfl:=Option.some.inj (qCr.symm.trans hg');obtain rfl:325=t':=Option.some.inj ((show (Tryz.prog.globals[4]?).map (·.type)=some 325 by kernel_rfl).symm.trans ht');obtain⟨xs,m,_,hxe,hl,hxl,hr⟩:=DataW.trod_array Tryz.underlying325 hd;rw[qdM]at hl;have hxm:xs.map (·.1)=frL.map Fr.da:=by
  have:=congrArg Prod.fst hxe
  rw[qx7]at this;exact (DataW.agg.inj this).symm
 have rows: ∀i r,frL[i]? =some r->(cs.toList.drop (i*4)).take 4=r.vl:=λi r hi=>by
  have hil:i<12:=(lgs.1 hi).1;have e1:(xs.map (·.1))[i]? =some r.da:=by rw[hxm,List.getElem?_map,hi];rfl
  rw[List.getElem?_map,Option.map_eq_some_iff]at e1;obtain⟨y,hy,hy1⟩:=e1;have h1:=hr i hil;rw[hy,qa9]at h1;exact qy2 h1 hy1
 have hv: ∃T fz,W.heap[4]? =some (.cells cs T fz):=by
  unfold World.var? at hvar;rw[qCr]at hvar;simp only[Option.bind_some]at hvar;split at hvar
  ·rename_i c T fz hc;cases hvar;exact⟨_,_,hc⟩
  ·cases hvar
 obtain⟨T,fz,hc⟩:=hv;refine⟨cs,T,fz,hc,?_,?_⟩
 ·have:cs.size=48:=by simpa using hl
  rw[this];exact Nat.le_of_eq rfl
 intro i c x hi hx;have hij:i=i/4*4+i%4:=by omega
 rw[qx6,hij,qA2 (λ_=>rfl) frL _ _ (Nat.mod_lt _ (by decide)),Option.bind_eq_some_iff]at hi;obtain⟨r,hr1,hr2⟩:=hi;have h2:=rows _ _ hr1;have h3:r.vl[i%4]? =some x:=by
  rw[<-h2,List.getElem?_take,ipo (Nat.mod_lt _ (by decide)),List.getElem?_drop,<-hij];simpa using hx
 have h4:i%4<4:=Nat.mod_lt _ (by decide);obtain⟨j,hj⟩:=wg (i%4)
 rw[<-hj]at hr2 h3 h4
 match j,h4 with
 |0,_=>cases hr2;cases h3;exact⟨rfl,λ_ _=> .str⟩
 |1,_=>cases hr2;cases h3;exact⟨rfl,λ_ _=> .bool⟩
 |2,_=>cases hr2;cases h3;exact⟨rfl,λ_ _=> .bool⟩
 |3,_=>cases hr2;cases h3;exact⟨rfl,λ_ _=> .bool⟩
theorem qrJ{w w':World}(h:qfy 4 RC.frmC w)(e:w'.heap[4]? =w.heap[4]?):qfy 4 RC.frmC w':=by
 obtain⟨arr,T,fz,h1,h2⟩:=h;exact⟨arr,T,fz,e.trans h1,h2⟩
def U0:List Nat:= [4,3,7,8]
def qzh(w:World):Prop:=RC.SG w∧qfy 4 RC.frmC w
theorem qzk{W:World}(h:laidMet Tryz.prog YtiiegfkjmnoijaaGreatDoor.Rows.topBaseWordsRow.laid W):qqr W∧qz0 W∧qfy 4 RC.frmC W:=by
 have h2:=laidMet.tail (laidMet.tail h);have h3:=laidMet.tail h2;have h4:=laidMet.tail h3;have h5:=laidMet.tail h4;obtain⟨a,s,e1,_⟩:=laid_sentinel (g:=8) (ti:=166) (tp:=348) (te:=350) (ts:=9) h3 qBm (by kernel_rfl) Tryz.underlying166 qqd Tryz.underlying348 Tryz.underlying350 rfl rfl Tryz.underlying9 (by kernel_rfl) (by kernel_rfl);obtain⟨b,t,e2,_⟩:=laid_sentinel (g:=7) (ti:=166) (tp:=348) (te:=350) (ts:=9) h4 qBn (by kernel_rfl) Tryz.underlying166 qqd Tryz.underlying348 Tryz.underlying350 rfl rfl Tryz.underlying9 (by kernel_rfl) (by kernel_rfl);exact⟨Lib.tabIs_of_head (t:=315) (e:=218) (n:=20) qBl (by kernel_rfl) Tryz.underlying315 Tryz.underlying218 (by kernel_rfl) (by kernel_rfl) h2,⟨⟨_,_,e2⟩,_,_,e1⟩,qBi h5⟩
theorem qoG{W:World}(h:laidMet Tryz.prog YtiiegfkjmnoijaaGreatDoor.Rows.topBaseWordsRow.laid W): ∀b,b∈U0-> ∃arr T fz,W.heap[b]? =some (.cells arr T fz):=by
 intro b hb;obtain⟨h1,⟨⟨_,_,h2⟩,_,_,h3⟩,arr,T,fz,h4,_⟩:=qzk h;have e:b=4∨b=3∨b=7∨b=8:=by simpa[U0] using hb
 rcases e with rfl|rfl|rfl|rfl
 ·exact⟨_,_,_,h4⟩
 ·exact qaL qBl h1
 ·exact qaL qBn h2
 ·exact qaL qBm h3
theorem qtd{W:World}(h:laidMet Tryz.prog YtiiegfkjmnoijaaGreatDoor.Rows.topBaseWordsRow.laid W): ∀w':World,(∀b,b∈U0->w'.heap[b]? =W.heap[b]?)->qzh w':=by
 intro w' hs;obtain⟨h1,⟨⟨t1,p1,h2⟩,t2,p2,h3⟩,h4⟩:=qzk h;refine⟨⟨qoc h1 (hs 3 (by simp[U0])),⟨t1,p1,?_⟩,t2,p2,?_⟩,qrJ h4 (hs 4 (by simp[U0]))⟩
 ·rw[qcr qBn (hs 7 (by simp[U0]))];exact h2
 ·rw[qcr qBm (hs 8 (by simp[U0]))];exact h3
theorem qtc:kY RC.SG [.pin U0 qzh]:=⟨0,_,_,rfl,λ_ h=>h.1⟩
theorem qtb:jh [.pin U0 qzh] RC.frmN RC.frmC:=⟨0,_,_,rfl,by simp[U0],λ_ h=>h.2⟩
end LN
end
