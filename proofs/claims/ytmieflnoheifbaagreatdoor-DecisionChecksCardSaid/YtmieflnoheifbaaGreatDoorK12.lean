import Derived.Test.YtmieflnoheifbaaGreatDoorK11
import Derived.Test.YtmieflnoheifbaaGreatDoorK10
import Derived.Shelf.Slices.In.SortAlone
import Derived.Shelf.Slices.In.CompactI
import Derived.Test.YtmieflnoheifbaaGreatDoorProg
import Derived.Test.YtmieflnoheifbaaGreatDoorK9
import Derived.Sort.OwnSortedInts
import Derived.Test.YtmieflnoheifbaaGreatDoorK3
import Derived.Test.YtmieflnoheifbaaGreatDoorK5
import Derived.Test.YtmieflnoheifbaaGreatDoorK8
import Derived.Lib.IndexMore
import Derived.Lib.CountLaws
import Derived.Laws.Strings3
import Derived.Test.YtmieflnoheifbaaGreatDoorK7
import Derived.Shelf.Strings.BuilderX
import Derived.Shelf.RegionOpenPlain
import Derived.Lib.Strings
import Derived.Lib.Slices
import Derived.Lib.Walk
import Derived.Lib.Builder
import Derived.Lib.AppendStr
import Derived.Lib.UnsafeStr
import Derived.Lib.MakeNoZero
import Derived.WalkKit
import Derived.Laws.Externs
import Derived.RangeFuncBox
import Derived.Laws.Rows
set_option linter.all false
set_option maxHeartbeats 128000000
set_option maxRecDepth 100000
section
open Go Go.Proofs AF HY LN
namespace RC
theorem qEq(l:List Un)(f t:Nat)(k v k2 v2:Nat)(h:wh)(hk:qt k h=some (.mem v 3 [.int .i64 (f:Int)]))(hk2:qt k2 h=some (.mem v2 3 [.int .i64 (t:Int)]))(hn:l.length<=1000000000):
  ACalls Tryz.prog 14 [ze l,.fn (.func 226) [] [.op k v 0,.op k2 v2 0]] h (.bool (rnB l (f,t))) h:=by
 have hc:=qR hk;have hc2:=qR hk2;unfold ze rnB;refine qw6 qCd ⟨rfl,rfl⟩ ⟨rfl,rfl⟩ (qfs qyN l.length (λj=>unC (l.getD j default)) (λj=> .agg (unC (l.getD j default))) _ [] [.op k v 0,.op k2 v2 0] _ h (λi _=>⟨rfl,by simp[kA,unC],rfl,rfl,rfl⟩) (λi _=> ?_) om);refine ACalls.borrow ?_ rfl;have e:([AV.agg (unC (l.getD i default))]++ [AV.op k v 0,AV.op k2 v2 0]).map (rei (λ_=>true) h 8)= [.agg (unC (l.getD i default)),.ip [.int .i64 (f:Int)],.ip [.int .i64 (t:Int)]]:=by
  simp only[lca,lna,List.map_cons,List.map_nil,rei_op,if_true,hc,hc2,ipOf_some,List.drop_zero,rei_agg];rfl
 rw[lna,e];exact qFb _ _ _ _
theorem qnL(l:List Un)(i:Nat):beH l (i+1)=(l.getD i default).to:=by unfold beH;rw[ine om,Nat.add_sub_cancel]
theorem qtC(u:Un)(n v:Nat)(ty:TypeId):lowO n (.mem v ty (unC u)):=by
 intro c hc;simp only[unC,List.mem_cons,List.not_mem_nil,or_false]at hc;rcases hc with rfl|rfl|rfl<;>rfl
theorem qtB(x:Co)(n v:Nat)(ty:TypeId):lowO n (.mem v ty (coC x)):=by
 intro c hc;simp only[coC,List.mem_cons,List.not_mem_nil,or_false]at hc;rcases hc with rfl|rfl|rfl|rfl<;>rfl
theorem ql7(x:Co): ∀a∈rnX x,a.length=2:=by
 intro a ha;unfold rnX at ha;obtain⟨_,_,rfl⟩:=List.mem_map.1 ha;rfl
theorem qfE(x:Co):(rnX x).length=(qc7 (cmB x) x.col.length).length:=by simp[rnX]
theorem ql6{x:Co}{i:Nat}(hi:i<(rnX x).length):(rnX x)[i]= [.int .i64 (((qc7 (cmB x) x.col.length).getD i (0,0)).1:Int),.int .i64 (((qc7 (cmB x) x.col.length).getD i (0,0)).2:Int)]:=by
 have h2:i<(qc7 (cmB x) x.col.length).length:=by rw[<-qfE];exact hi
 simp only[rnX,List.getElem_map];rw[gdqA,zz h2];rfl
theorem qlZ(x:Co)(f d:Nat)(hd:d<=1000000000)(s:Nat)(hs:s<=1000000000):qiQ (kG x f d s):=by
 have hI:=qdF x f d s;have hH:=qdE x f d s;have hl:=qdG x f d s;refine⟨om,?_,?_⟩
 ·exact jA _ (λr:Rd=>r.src.length<=1000000000) (by decide) λj hj=>by
   have:=hI.src ((kG x f d s).getD j default) (by rw[gdqA,zz hj];exact List.getElem_mem hj)
   have:=qfd (hi:=(s:Int)) (lo:=0) this.1 this.2
   omega
 ·exact jA _ (λr:Rd=>r.words.length<=1000000000) (by decide) λj hj=>by
   have h1:=hH.nn j hj;obtain⟨y,ys,e⟩:=List.exists_cons_of_ne_nil h1;have h2:=hH.wd j hj y (by rw[e];exact List.mem_cons_self);rw[h2]
   have:=qai x y.toNat f d
   omega
theorem qFc(x:Co)(l:List Un)(h:wh)(ho:CoOk x)(hn:x.col.length<=1000000000)(hu:qbK l):ACalls Tryz.prog 152 [.agg (coC x),ze l] h (.bool (rgB x l)) h:=by
 have hsg:=ho.sg;have hl:=hu.n;obtain⟨R,hR⟩:=wg (rgB x l)
 rw[<-hR];unfold rgB at hR;refine acO qxF ?_;simp (disch:=omega) only[qvS,coC,ze,go_sem]
 repeat' first|with_reducible apply aiA|exact clz|fail
 refine qn (T:=λi:Nat×AObj=>qO 63 [(2,.op h.length 1 0),(3,.op (h.length+1) 1 0),(4,.op (h.length+2) 1 0),(5,.int .i64 (beH l i.1)),(10,ze l),(11,.int .i64 l.length),(12,.int .i64 i.1)])
  (H:=λi=>h++ [.mem 1 26 (coC x),.mem 1 31 [ze l],.mem 1 4 [.bool false],i.2,.emp 0,.emp 0])
  (inv:=λi=>i.1<=l.length∧qy [i.2] 0=true∧(∀n,lowO n i.2)∧ ∀j,j<i.1->unB x (beH l j) (l.getD j default)=true) (m:=λi=>l.length-i.1) (0,.emp 0) ⟨nzl _,rfl,λ_=>trivial,λj hj=>absurd hj (nnz j)⟩ (Wk.temps ?_) ?_
 ·(simp only[ze,beH,go_sem,qf,qc,qa,qe];try exact we)
 rintro⟨i,O⟩ ⟨i1,i2,il,i3⟩ K hK;simp only at i1 i2 il i3 hK;have i2': ∀m,qy (O::m) 0=true:=λ_=>i2
 by_cases hi:i<l.length
 ·have k1:((i:Int)<l.length)=True:=wl;have hno:unB x (beH l i) (l.getD i default)=false->R=false:=λhx=>by
   rw[hR];unfold qcC;rw[qK.2 ⟨i,hi,by rw[hx];rfl⟩];rfl
  have hS:unB x (beH l i) (l.getD i default)=true-> ∀j,j<i+1->unB x (beH l j) (l.getD j default)=true:=λhx j hj=>by
   by_cases e:j=i
   ·subst e;exact hx
   ·exact i3 j om
  have hbs:=qnL l i;have zrd:qiQ (l.getD i default).rds:=⟨hu.rd i,hu.sr i,hu.wd i⟩
  obtain⟨u,hux⟩:=wg (l.getD i default)
  have eu:=hux.symm;rw[eu]at hno hS hbs zrd;obtain⟨b,hb⟩:=wg (beH l i)
  have eb:=hb.symm;rw[eb]at hno hS;have hB:unB x b u= !(decide (u.frm<=b)||(decide (u.frm<0)||(decide (u.to<=u.frm)||(decide ((x.col.length:Int)<u.to)|| !decide (u.rds=qbE x u.frm.toNat u.to.toNat))))):=rfl
  by_cases g1:u.frm<=b
  ·have q1:(u.frm<=b)=True:=eqt g1;rw[hno (by rw[hB,dqt g1];rfl)];simp (disch:=omega) only[ze,unC,coC,qu,ji,k1,eu,eb,i2',q1,go_sem]
   repeat' first|(refine qj ( ji []) ?_;simp (disch:=omega) only[ji,go_sem])|exact wa|with_reducible apply aiA|exact clz|fail
  have q1:(u.frm<=b)=False:=eqf g1
  by_cases g2:u.frm<0
  ·have q2:(u.frm<0)=True:=eqt g2;rw[hno (by rw[hB,dqt g2];simp)];simp (disch:=omega) only[ze,unC,coC,qu,ji,k1,eu,eb,i2',q1,q2,go_sem]
   repeat' first|(refine qj ( ji []) ?_;simp (disch:=omega) only[ji,go_sem])|exact wa|with_reducible apply aiA|exact clz|fail
  have q2:(u.frm<0)=False:=eqf g2
  by_cases g3:u.to<=u.frm
  ·have q3:(u.to<=u.frm)=True:=eqt g3;rw[hno (by rw[hB,dqt g3];simp)];simp (disch:=omega) only[ze,unC,coC,qu,ji,k1,eu,eb,i2',q1,q2,q3,go_sem]
   repeat' first|(refine qj ( ji []) ?_;simp (disch:=omega) only[ji,go_sem])|exact wa|with_reducible apply aiA|exact clz|fail
  have q3:(u.to<=u.frm)=False:=eqf g3
  by_cases g4:(x.col.length:Int)<u.to
  ·have q4:((x.col.length:Int)<u.to)=True:=eqt g4;rw[hno (by rw[hB,dqt g4];simp)];simp (disch:=omega) only[ze,unC,coC,qu,ji,k1,eu,eb,i2',q1,q2,q3,q4,go_sem]
   repeat' first|(refine qj ( ji []) ?_;simp (disch:=omega) only[ji,go_sem])|exact wa|with_reducible apply aiA|exact clz|fail
  have q4:((x.col.length:Int)<u.to)=False:=eqf g4;obtain⟨f,hf⟩: ∃f:Nat,u.frm=(f:Int):=⟨u.frm.toNat,om⟩
  obtain⟨t,ht⟩: ∃t:Nat,u.to=(t:Int):=⟨u.to.toNat,om⟩
  have c48:=λh=>qDZ x f t h ho om hn
  have zF:qiQ (qbE x f t):=qlZ x f (t-f) om x.sig.length om;have c49:=λh=>qFi u.rds (qbE x f t) h zrd zF
  have eft:qbE x u.frm.toNat u.to.toNat=qbE x f t:=by rw[hf,ht,itn,itn]
  rw[dqf g1,dqf g2,dqf g3,dqf g4,eft]at hB;obtain⟨F,hF⟩:=wg (qbE x f t)
  rw[<-hF]at hB;simp only[<-hF]at c48 c49;obtain⟨c,hc⟩:=wg (decide (u.rds=F))
  rw[<-hc]at hB;simp only[<-hc]at c49;rw[hf]at q1 q2 q3;rw[ht]at q3 q4;unfold coC qu at c48;unfold ji at c48 c49;cases c with
  |false=>
   rw[hno hB];simp (disch:=omega) only[ze,unC,coC,qu,ji,k1,eu,eb,i2',q1,q2,q3,q4,hf,ht,go_sem]
   repeat' first|((first|refine cG (λe=>c48 _) ?_ ?_|refine cG (λe=>c49 _) ?_ ?_);exact flk;simp (disch:=omega) only[go_sem])|exact wa|with_reducible apply aiA|exact clz|fail
  |true=>
   simp (disch:=omega) only[ze,unC,coC,qu,ji,k1,eu,eb,i2',q1,q2,q3,q4,hf,ht,go_sem]
   repeat' first|((first|refine cG (λe=>c48 _) ?_ ?_|refine cG (λe=>c49 _) ?_ ?_);exact flk;simp (disch:=omega) only[go_sem])|with_reducible apply aiA|exact clz|fail
   refine hK _ _ (i+1,.mem (qo (some O)+1) 39 (unC u)) ⟨hi,rfl,λn=>qtC u n _ _,hS hB⟩ (by simp only;omega) ?_;simp only[hbs,ht,unC,hf];refine Wk.temps ?_
   (simp only[ze,go_sem,qf,qc,qa,qe];try exact we)
 have k1:((i:Int)<l.length)=False:=wm;obtain rfl:i=l.length:=by omega
 have hun:qcC x l=true:=by
  unfold qcC;rw[qq.2 λj hj=>by rw[i3 j hj];rfl];rfl
 rw[hun,Bool.true_and]at hR;have hcv:=qsQ hun;clear hK;have c56:=λh=>qD0 x h
 unfold coC qu at c56;simp (disch:=omega) only[coC,qu,k1,go_sem]
 repeat' first|(refine cA (c56 _) flk ?_;simp (disch:=omega) only[go_sem])
 obtain⟨rs,hrs⟩:=wg (qc7 (cmB x) x.col.length)
 have hrl:=qfE x;have hrg:=λi hi=>ql6 (x:=x) (i:=i) hi
 rw[<-hrs]at hrl hcv;simp only[<-hrs]at hrg;refine zE (xs:=rnX x) (itR x ho hn) (ql7 x)
  (S:=λi hh=>(∃O8 O9,qy [O8] 0=true∧qy [O9] 0=true∧(∀n,lowO n O8)∧(∀n,lowO n O9)∧hh=h++ [.mem 1 26 (coC x),.mem 1 31 [ze l],.mem 1 4 [.bool false],O,O8,O9])∧ ∀j,j<i->rnB l (rs.getD j (0,0))=true)
  (E:=λs hh=>s= .ret∧R=false∧ ∃O8 O9,(∀n,lowO n O8)∧(∀n,lowO n O9)∧hh=h++ [.mem 1 26 (coC x),.mem 1 31 [ze l],.mem 1 4 [.bool false],O,O8,O9]) ?_ ?_ ?_ ?_ ?_ ?_ ?_
 ·rintro i hh ⟨⟨O8,O9,_,_,l8,l9,rfl⟩,_⟩;refine LowI.app rfl (λo ho=> ?_);simp only[List.mem_cons,List.not_mem_nil,or_false]at ho;rcases ho with rfl|rfl|rfl|rfl|rfl|rfl
  ·left;simp[coC,qu]
  ·left;simp
  ·left;simp
  ·left;simp
  ·right;exact⟨l8 _,l8 _⟩
  ·right;exact⟨l9 _,l9 _⟩
 ·rintro s hh ⟨_,_,O8,O9,l8,l9,rfl⟩;refine LowI.app rfl (λo ho=> ?_);simp only[List.mem_cons,List.not_mem_nil,or_false]at ho;rcases ho with rfl|rfl|rfl|rfl|rfl|rfl
  ·left;simp[coC,qu]
  ·left;simp
  ·left;simp
  ·left;simp
  ·right;exact⟨l8 _,l8 _⟩
  ·right;exact⟨l9 _,l9 _⟩
 ·exact⟨⟨.emp 0,.emp 0,rfl,rfl,λ_=>trivial,λ_=>trivial,rfl⟩,λj hj=>absurd hj (nnz j)⟩
 ·have lu: ∀n,qT n (ze l)=true:=λ_=>rfl
  have lt: ∀n,qT n (qm x.tok)=true:=λ_=>rfl
  simp[qT,qT.lowVs,lu,lt,qgF]
  try omega
 ·rintro i hh tl LI TS hi ⟨⟨O8,O9,s8,s9,l8,l9,rfl⟩,hj⟩ hlen K K2 hK hN hR' hX;rw[hrg i hi];rw[hrl]at hi;obtain⟨⟨f,t⟩,hr⟩: ∃r,r=rs.getD i (0,0):=⟨_,rfl⟩
  have er:=hr.symm;rw[er];have s8': ∀m,qy (O8::m) 0=true:=λ_=>s8
  have s9': ∀m,qy (O9::m) 0=true:=λ_=>s9
  simp only[kK];simp (disch:=omega) only[List.append_assoc,coC,s8',s9',go_sem];refine hK _ _ (h++ [.mem 1 26 (coC x),.mem 1 31 [ze l],.mem 1 4 [.bool false],O,.mem (qo (some O8)+1) 3 [.int .i64 (f:Int)],.mem (qo (some O9)+1) 3 [.int .i64 (t:Int)]]) (by simp[coC]) (by simp) ?_;simp (disch:=omega) only[List.append_assoc,go_sem]
  repeat' first|with_reducible apply aiA|exact clz|fail
  refine cA (qEq l f t (h.length+4) _ (h.length+5) _ _ ?ka ?kb hl) (by exact flk) ?_
  case ka=>simp only[go_sem]
  case kb=>simp only[go_sem]
  have l8': ∀n,lowO n (.mem (qo (some O8)+1) 3 [.int .i64 (f:Int)]):=λn c hc=>by simp at hc;subst hc;rfl
  have l9': ∀n,lowO n (.mem (qo (some O9)+1) 3 [.int .i64 (t:Int)]):=λn c hc=>by simp at hc;subst hc;rfl
  cases hb:rnB l (f,t)with
  |true=>
   simp (disch:=omega) only[go_sem];refine hN _ _ (h++ [.mem 1 26 (coC x),.mem 1 31 [ze l],.mem 1 4 [.bool false],O,.mem (qo (some O8)+1) 3 [.int .i64 (f:Int)],.mem (qo (some O9)+1) 3 [.int .i64 (t:Int)]]) (by simp[coC]) (by simp) ⟨⟨_,_,rfl,rfl,l8',l9',rfl⟩,λj hj'=> ?_⟩
   by_cases e:j=i
   ·subst e;rw[er];exact hb
   ·exact hj j om
  |false=>
   have hRf:R=false:=by
    rw[hR];cases hc:cvA x l with
    |false=>rfl
    |true=>
     have h2:=List.all_eq_true.1 (hcv.2 hc) (f,t) (by rw[hr,gdqA,zz hi];exact List.getElem_mem hi);rw[hb]at h2;cases h2
   simp (disch:=omega) only[go_sem];refine hR' _ _ (h++ [.mem 1 26 (coC x),.mem 1 31 [ze l],.mem 1 4 [.bool false],O,.mem (qo (some O8)+1) 3 [.int .i64 (f:Int)],.mem (qo (some O9)+1) 3 [.int .i64 (t:Int)]]) (by simp[coC]) (by simp) ⟨rfl,hRf,_,_,l8',l9',rfl⟩
 ·rintro hh ⟨⟨O8,O9,s8,s9,l8,l9,rfl⟩,hj⟩;have hRt:R=true:=by
   rw[hR];refine hcv.1 (List.all_eq_true.2 λr hr=> ?_);obtain⟨j,hj1,rfl⟩:=List.getElem_of_mem hr
   have:=hj j (by rw[hrl];exact hj1)
   rw[gdqA,zz hj1]at this;exact this
  rw[hRt];simp (disch:=omega) only[go_sem]
  repeat' first|exact wa|fail
 ·rintro e hh ⟨rfl,hRf,O8,O9,l8,l9,rfl⟩;rw[hRf];simp (disch:=omega) only[go_sem]
  repeat' first|exact wa|fail
theorem vaP(x:Co)(l:List Un)(h:wh)(hz:qad x)(hu:qbK l)(hp:kt SG h):ACalls Tryz.prog 74 [.agg (coC x),ze l] h (.int .i64 (vaE x l)) h:=by
 have c1:=λl'=>coP x (h++l') hz (hp.app l')
 unfold vaE
 by_cases g:coE x=0
 case neg=>
  have k1:(coE x=0)=False:=eqf g;rw[ipo g];obtain⟨e,he⟩:=wg (coE x)
  rw[<-he]at c1 k1;unfold coC at c1;refine acO qyQ ?_;simp (disch:=omega) only[qBH,coC,go_sem]
  repeat' first|(refine cA (c1 _) flk ?_;simp (disch:=omega) only[k1,go_sem])|exact wa|fail
 rw[ine (λhc=>hc g)];have c2:=λh=>qFc x l h (W0 g) hz.cl hu
 rw[g]at c1;unfold coC at c1 c2;cases g2:rgB x l<;>rw[g2]at c2
 all_goals
  refine acO qyQ ?_;simp (disch:=omega) only[qBH,coC,go_sem]
  repeat' first|((first|refine cA (c1 _) ?_ ?_|refine cA (c2 _) ?_ ?_);exact flk;simp (disch:=omega) only[go_sem])|exact wa|fail
theorem jf{α:Type}{L:List α}{a:α}{i:Nat}(h:i<L.length):L.getD i a∈L:=by
 rw[gdqA,zz h];exact List.getElem_mem h
theorem qdq{α:Type}{L:List α}{a b:α}{i:Nat}(h:i<L.length):(L.set i b).getD i a=b:=by
 rw[gdqA,List.getElem?_set,ipo rfl,ipo h];rfl
def bgn(c:UInt8):Bool:=decide (kind c=1)||decide (kind c=3)
theorem qaq{c:UInt8}(h:bgn c=true):kY c=true:=by
 unfold bgn at h;unfold kY;rw[Bool.or_eq_true]at h ⊢;rcases h with h|h
 ·exact .inl h
 ·exact .inr (by rw[h];rfl)
def tkF(f:Int)(w:Str):Tk:=⟨w,[],[],0,f,[]⟩
structure Bs where
 done:List Tk
 opn:Bool
 fl:Int
 word:Str
 jn:Bool
def Bs.fin(b:Bs):List Tk:=b.done++if b.opn=true then [tkF b.fl b.word] else []
def Bs.out(b:Bs):List Tk:=b.done++if b.opn=true then [tkF b.fl []] else []
def jfl(j:Bool)(n:Nat):Int:=if j=true∧0<n then 16 else 0
def Bs.stp(b:Bs)(c:UInt8):Bs:=
 if b.opn=true∧kY c=true then ⟨b.done,true,b.fl,b.word++ [c],b.jn⟩
 else if bgn c=true then ⟨b.fin,true,jfl b.jn b.fin.length,[c],true⟩
 else if kind c=6 then ⟨b.fin,false,0,[],false⟩
 else ⟨b.fin++ [tkF (8+jfl b.jn b.fin.length) [c]],false,0,[],true⟩
def bs0:Bs:=⟨[],false,0,[],false⟩
def bsL(s:Str):Bs:=s.foldl Bs.stp bs0
theorem qas(s:Str)(c:UInt8):bsL (s++ [c])=(bsL s).stp c:=by unfold bsL;rw[List.foldl_append];rfl
def tkN(t:Tk):Tk:=⟨t.text,t.text,t.page,t.line,t.flags,t.name⟩
def qbk(s:Str):List Tk:=(bsL s).fin
def qbX(s:Str):List Tk:=(qbk s).map tkN
def qgE(L:List Tk):Bool:=jv (λj=>decide (64<(L.getD j default).text.length)) L.length
def qd8(s:Str):Int:=if qgE (qbk s)=true then 4 else 0
def TkG(t:Tk):Prop:=t=tkF t.flags t.text∧(((t.flags=0∨t.flags=16)∧ ∃c r,t.text=c::r∧bgn c=true∧ ∀b∈r,kY b=true)∨((t.flags=8∨t.flags=24)∧ ∃c,t.text= [c]∧bgn c=false∧kind c≠6))
structure qnz (s:Str) (b:Bs):Prop where
 cl:b.opn=false->b.word= []∧b.fl=0
 op:b.opn=true->TkG (tkF b.fl b.word)∧b.jn=true∧(b.fl=0∨b.fl=16)
 dn: ∀t∈b.done,TkG t
 len:b.fin.length<=s.length
 cat:(b.fin.map Tk.text).flatten=s.filter λc=> !decide (kind c=6)
theorem Bs.fin_ok{s:Str}{b:Bs}(h:qnz s b): ∀t∈b.fin,TkG t:=by
 intro t ht;unfold Bs.fin at ht;rcases List.mem_append.1 ht with ht|ht
 ·exact h.dn t ht
 ·split at ht
  ·rename_i ho;rw[List.mem_singleton]at ht;subst ht;exact (h.op ho).1
  ·cases ht
theorem qfu{c:UInt8}(h:kY c=true):kind c≠6:=by
 unfold kY at h;simp only[Bool.or_eq_true,decide_eq_true_eq]at h;omega
theorem qey(j:Bool)(n:Nat):jfl j n=0∨jfl j n=16:=by
 unfold jfl;split
 ·exact .inr rfl
 ·exact .inl rfl
theorem qax(s:Str)(c:UInt8):(s++ [c]).filter (λc=> !decide (kind c=6))=s.filter (λc=> !decide (kind c=6))++if kind c=6 then [] else [c]:=by
 rw[List.filter_append];congr 1
 by_cases h:kind c=6
 ·simp[h]
 ·simp[h]
theorem qAf{s:Str}{b:Bs}(h:qnz s b)(c:UInt8):qnz (s++ [c]) (b.stp c):=by
 have hf:=Bs.fin_ok h;have hl:=h.len;have hc:=h.cat;unfold Bs.stp;split
 ·rename_i g;obtain⟨g1,g2⟩:=g;obtain⟨⟨_,k1⟩,k2,k3⟩:=h.op g1;have kw: ∃e r,b.word=e::r∧bgn e=true∧ ∀x∈r,kY x=true:=by
   rcases k1 with⟨_,k⟩|⟨k,_⟩
   ·exact k
   ·exact absurd k (by have:(tkF b.fl b.word).flags=b.fl:=rfl;rw[this];omega)
  refine⟨λe=>(by cases e),λ_=>⟨⟨rfl,.inl ⟨k3,?_⟩⟩,k2,k3⟩,h.dn,?_,?_⟩
  ·obtain⟨e,r,e1,e2,e3⟩:=kw;refine⟨e,r++ [c],?_,e2,λx hx=> ?_⟩
   ·show b.word++ [c]=_;rw[e1];rfl
   ·rcases List.mem_append.1 hx with hx|hx
    ·exact e3 x hx
    ·rw[List.mem_singleton]at hx;subst hx;exact g2
  ·unfold Bs.fin at hl ⊢;simp only[g1,if_true,lap,lco,lnl]at hl ⊢;omega
  ·unfold Bs.fin at hc ⊢;rw[qax,ine (qfu g2),<-hc];simp[g1,tkF]
 rename_i g;split
 ·rename_i g2;have j:=qey b.jn b.fin.length;refine⟨λe=>(by cases e),λ_=>⟨⟨rfl,.inl ⟨j,c,[],rfl,g2,λx hx=>by cases hx⟩⟩,rfl,j⟩,hf,?_,?_⟩
  ·show (b.fin++ [_]).length<=_;simp only[lap,lco,lnl];omega
  ·show ((b.fin++ [tkF _ [c]]).map Tk.text).flatten=_;rw[qax,ine (qfu (qaq g2)),List.map_append,List.flatten_append,hc];rfl
 rename_i g2;have g2:bgn c=false:=by simpa using g2
 split
 ·rename_i g3;refine⟨λ_=>⟨rfl,rfl⟩,λe=>(by cases e),hf,?_,?_⟩
  ·show (b.fin++ []).length<=_;simp only[lap,lnl,lco];omega
  ·show ((b.fin++ []).map Tk.text).flatten=_;rw[lan,qax,ipo g3,hc,lan]
 ·rename_i g3;have j:=qey b.jn b.fin.length;refine⟨λ_=>⟨rfl,rfl⟩,λe=>(by cases e),λt ht=> ?_,?_,?_⟩
  ·rcases List.mem_append.1 ht with ht|ht
   ·exact hf t ht
   ·rw[List.mem_singleton]at ht;subst ht;refine⟨rfl,.inr ⟨?_,c,rfl,g2,g3⟩⟩;show 8+jfl b.jn b.fin.length=8∨8+jfl b.jn b.fin.length=24;omega
  ·show (b.fin++ [_]++ []).length<=_;simp only[lap,lnl,lco];omega
  ·show ((b.fin++ [tkF _ [c]]++ []).map Tk.text).flatten=_;rw[lan,qax,ine g3,List.map_append,List.flatten_append,hc];rfl
theorem qcJ(s:Str):qnz s (bsL s):=by
 have key: ∀n,n<=s.length->qnz (s.take n) (bsL (s.take n)):=by
  intro n
  induction n with
  |zero=>intro _;exact⟨λ_=>⟨rfl,rfl⟩,λe=>(by cases e),λt ht=>(by cases ht),nlr _,rfl⟩
  |succ n ih=>
   intro hn;rw[List.take_add_one,zz hn];show qnz (s.take n++ [s[n]]) (bsL (s.take n++ [s[n]]));rw[qas];exact qAf (ih om) _
 have:=key s.length (nlr _)
 rwa [List.take_length]at this
theorem qg7(s:Str): ∀t∈qbk s,TkG t:=Bs.fin_ok (qcJ s)
theorem qeX(s:Str):(qbk s).length<=s.length:=(qcJ s).len
theorem qaP(s:Str):(qbX s).length<=s.length:=by unfold qbX;rw[List.length_map];exact qeX s
theorem TkG.ne{t:Tk}(h:TkG t):t.text≠ []:=by
 rcases h.2 with⟨_,c,r,e,_⟩|⟨_,c,e,_⟩<;>rw[e]<;>exact List.cons_ne_nil _ _
theorem qci{L:List Str}{w:Str}(h:w∈L):w.length<=L.flatten.length:=by
 induction L with
 |nil=>cases h
 |cons a r ih=>
  rw[List.flatten_cons,lap];rcases List.mem_cons.1 h with rfl|h
  ·omega
  ·have:=ih h;omega
theorem qmS(s:Str){t:Tk}(ht:t∈qbX s): ∃u,TkG u∧t=tkN u∧u∈qbk s:=by
 unfold qbX at ht;obtain⟨u,hu,rfl⟩:=List.mem_map.1 ht;exact⟨u,qg7 s u hu,rfl,hu⟩
theorem qcW{L:List Tk}:qgE L=false↔ ∀t∈L,t.text.length<=64:=by
 unfold qgE;rw[qq];constructor
 ·intro h t ht;obtain⟨j,hj,rfl⟩:=List.getElem_of_mem ht
  have:=of_decide_eq_false (h j hj)
  rw[gdqA,zz hj,Option.getD_some]at this;omega
 ·intro h j hj
  have:=h (L.getD j default) (by rw[gdqA,zz hj];exact List.getElem_mem hj)
  exact dqf om
def qdR(s:Str):Int:=if zN s≠0 then zN s else qd8 s
def qfa(s:Str):List Str:=if qdR s=0 then (qbX s).map Tk.text else []
structure Dc where
 kind:Int
 sig:Str
 tok:Int
 txt:Str
instance:Inhabited Dc:=⟨⟨0,[],0,[]⟩⟩
def dcC(d:Dc):wj:= [.int .i64 d.kind,.str d.sig,.int .i64 d.tok,.str d.txt]
def kq(l:List Dc):AV:= .sl l.length λi=>dcC (l.getD i default)
theorem qkD(l:List Dc):(kq l).flag=true:=rfl
theorem qir(l:List Dc):(kq l).strip=kq l:=rfl
theorem qpQ{fz:Nat->Bool}{h:wh}{n:Nat}(l:List Dc):rei fz h (n+1) (kq l)=kq l:=rfl
theorem qoP{fz:Nat->Bool}{h:wh}{n:Nat}(l:List Dc):frz fz h (n+1) (kq l)=kq l:=rfl
attribute [go_sem] qkD qir qpQ qoP
def qX(x:Co)(g:Str):Int:=qbD (λj=>decide (g=x.sig.getD j [])) x.sig.length 0
def kz(x:Co)(s:Nat)(t:Int):Int:=qbD (λk=>decide ((x.col.getD k []).getD s 0=t)) x.col.length 0
def kF(x:Co)(l:List Un)(o:Dc):Int:=fnU l (kz x (qX x o.sig).toNat o.tok)
def tkB(x:Co)(o:Dc):Bool:=decide (0<=qX x o.sig)&&(decide (0<=o.tok)&&decide (o.tok<((x.tok.getD (qX x o.sig).toNat []).length:Int)))
def cjE(o:Dc):Int:=if o.kind=2 then (if qdR o.txt≠0 then qdR o.txt else if qfa o.txt= [] then 5 else 0) else 0
def U3(x:Co)(l:List Un)(o:Dc):Int:=
 if o.kind<1∨3<o.kind then 8 else if o.txt≠ []∧o.kind≠2 then 1 else if tkB x o=false then 6 else if kF x l o<0 then 20 else cjE o
def qeZ(x:Co)(l:List Un)(o:Dc):Int:=if vaE x l≠0 then vaE x l else U3 x l o
def qvm(x:Co)(l:List Un)(o:Dc):Int:=if qeZ x l o=0 then kF x l o else 0
def KD(x:Co)(l:List Un)(d:List Dc):Int:=if 256<d.length then 4 else U9 (λi=>U3 x l (d.getD i default)) 0 d.length
theorem qda{x:Co}{o:Dc}(h:tkB x o=true):0<=qX x o.sig∧(qX x o.sig).toNat<x.sig.length∧x.sig.getD (qX x o.sig).toNat []=o.sig∧0<=o.tok∧o.tok<((x.tok.getD (qX x o.sig).toNat []).length:Int):=by
 unfold tkB at h;rw[Bool.and_eq_true,Bool.and_eq_true,decide_eq_true_iff,decide_eq_true_iff,decide_eq_true_iff]at h;obtain⟨h1,h2,h3⟩:=h;rcases zU (λj=>decide (o.sig=x.sig.getD j [])) x.sig.length with⟨i,g1,g2,_,g4⟩|⟨_,g2⟩
 ·have e:qX x o.sig=i:=g4;rw[e]at h1 h3 ⊢;exact⟨h1,g1,(of_decide_eq_true g2).symm,h2,h3⟩
 ·have e:qX x o.sig= -1:=g2;omega
theorem UO{x:Co}{l:List Un}{o:Dc}(h:U3 x l o=0):1<=o.kind∧o.kind<=3∧(o.txt= []∨o.kind=2)∧tkB x o=true∧0<=kF x l o∧cjE o=0:=by
 unfold U3 at h;split at h
 ·cases h
 split at h
 ·cases h
 split at h
 ·cases h
 split at h
 ·cases h
 rename_i h1 h2 h3 h4;refine⟨om,om,?_,by simpa using h3,om,h⟩
 by_cases e:o.txt= []
 ·exact .inl e
 ·exact .inr (Classical.not_not.1 λhc=>h2 ⟨e,hc⟩)
theorem qq2{o:Dc}(h:cjE o=0)(hk:o.kind=2):zN o.txt=0∧qd8 o.txt=0∧qbX o.txt≠ []∧o.txt≠ []:=by
 unfold cjE at h;rw[ipo hk]at h;split at h
 ·rename_i e;exact absurd h e
 rename_i h1;have h1:=Classical.not_not.1 h1;split at h
 ·cases h
 rename_i h2;unfold qfa at h2;rw[ipo h1]at h2;have h3:qbX o.txt≠ []:=λe=>h2 (by rw[e];rfl)
 unfold qdR at h1;split at h1
 ·rename_i e;exact absurd h1 e
 rename_i g;exact⟨Classical.not_not.1 g,h1,h3,λe=>h3 (by rw[e];rfl)⟩
structure Pc where
 t:Tk
 c:Int
instance:Inhabited Pc:=⟨⟨default,0⟩⟩
def pcB(x:Co)(s k:Nat):Bool:=decide (0<=(x.col.getD k []).getD s 0)
def pcT(x:Co)(s k:Nat):Pc:=⟨(x.tok.getD s []).getD ((x.col.getD k []).getD s 0).toNat default,(k:Int)⟩
def spk(x:Co)(s f:Nat):Nat->List Pc
 |0=> []
 |d+1=>spk x s f d++if pcB x s (f+d)=true then [pcT x s (f+d)] else []
structure Rw where
 p:Pc
 u:Int
 d:Int
instance:Inhabited Rw:=⟨⟨default,0,0⟩⟩
def qDb(f:Int):Bool:=f.toNat.testBit 2
def jnB(f:Int):Bool:=f.toNat.testBit 4
def qCI(b s:Str):Bool:=if kC b=true then !kC s&& !decide (s= [39]) else true
def mkW(pv:Option Str)(r:Rw):Wd:=⟨r.p.t.text,r.p.c,r.u,r.d,jnB r.p.t.flags&&(match pv with|none=>false|some b=>qCI b r.p.t.text),qDb r.p.t.flags,r.p.t.name⟩
def qpF(L:List Rw)(i:Nat):Option Str:=if i=0 then none else some (L.getD (i-1) default).p.t.text
def bsW(L:List Rw):List Wd:=(List.range L.length).map λi=>mkW (qpF L i) (L.getD i default)
theorem qaf(L:List Rw):(bsW L).length=L.length:=by unfold bsW;simp
theorem qvE{L:List Rw}{i:Nat}(hi:i<L.length):(bsW L).getD i default=mkW (qpF L i) (L.getD i default):=by
 unfold bsW;rw[gdqA,List.getElem?_map,List.getElem?_range hi];rfl
theorem qcd{α:Type}{L M:List α}{a:α}{i:Nat}(hi:i<L.length):(L++M).getD i a=L.getD i a:=by
 rw[gdqA,gdqA,List.getElem?_append_left hi]
theorem qa1{α:Type}{L M:List α}{a:α}{i:Nat}:(L++M).getD (L.length+i) a=M.getD i a:=by
 rw[gdqA,gdqA,List.getElem?_append_right om,Nat.add_sub_cancel_left]
theorem qnR(L:List Rw)(r:Rw):bsW (L++ [r])=bsW L++ [mkW (qpF (L++ [r]) L.length) r]:=by
 unfold bsW;rw[lap,lco,lnl,Nat.zero_add,List.range_succ,List.map_append];congr 1
 ·refine List.map_congr_left λi hi=> ?_
  rw[List.mem_range]at hi;have e1:(L++ [r]).getD i default=L.getD i default:=qcd hi;have e2:qpF (L++ [r]) i=qpF L i:=by
   unfold qpF;split
   ·rfl
   ·rw[qcd om]
  rw[e1,e2]
 ·have e1:(L++ [r]).getD L.length default=r:=by
   have:=qa1 (L:=L) (M:= [r]) (a:=default) (i:=0)
   rw[Nat.add_zero]at this;rw[this];rfl
  rw[List.map_cons,List.map_nil,e1]
theorem qlS(L:List Rw)(r:Rw):qpF (L++ [r]) L.length=if L.length=0 then none else some ((bsW L).getD (L.length-1) default).text:=by
 unfold qpF;split
 ·rfl
 ·rw[qcd om,qvE om];rfl
def qcy(x:Co)(l:List Un)(d:List Dc)(k:Nat):Nat->Int
 |0=> -1
 |n+1=>if kF x l (d.getD n default)=k then (n:Int) else qcy x l d k n
def frN(l:List Un)(k:Nat):Nat:=(l.getD k default).frm.toNat
def toN(l:List Un)(k:Nat):Nat:=(l.getD k default).to.toNat
def ku(l:List Un)(k:Nat):Nat:=if k=0 then 0 else toN l (k-1)
def qrF(x:Co)(l:List Un)(k:Nat)(o:Dc):List Pc:=
 if o.kind=1 then spk x (qX x o.sig).toNat (frN l k) (toN l k-frN l k) else if o.kind=2 then (qbX o.txt).map (λt=>⟨t,(l.getD k default).frm⟩) else []
def rwM(ps:List Pc)(u d:Int):List Rw:=ps.map λp=>⟨p,u,d⟩
def rwC(x:Co)(s f t:Nat):List Rw:=rwM (spk x s f (t-f)) (-1) (-1)
def rwU(x:Co)(l:List Un)(d:List Dc)(s k:Nat):List Rw:=
 if qcy x l d k d.length<0 then rwM (spk x s (frN l k) (toN l k-frN l k)) k (-1)
 else rwM (qrF x l k (d.getD (qcy x l d k d.length).toNat default)) k (qcy x l d k d.length)
def rwL(x:Co)(l:List Un)(d:List Dc)(s:Nat):Nat->List Rw
 |0=> []
 |k+1=>rwL x l d s k++(rwC x s (ku l k) (frN l k)++rwU x l d s k)
def rwA(x:Co)(l:List Un)(d:List Dc)(s:Nat):List Rw:=rwL x l d s l.length++rwC x s (ku l l.length) x.col.length
def esE(x:Co)(l:List Un)(d:List Dc)(s:Int):Int:=
 if vaE x l≠0 then vaE x l else if s<0∨(x.sig.length:Int)<=s then 2 else if KD x l d≠0 then KD x l d else if 1024<(rwA x l d s.toNat).length then 4 else 0
def esR(x:Co)(l:List Un)(d:List Dc)(s:Int):List Wd:=if esE x l d s=0 then bsW (rwA x l d s.toNat) else []
theorem qgG(x:Co)(l:List Un)(d:List Dc)(k:Nat): ∀n,-1<=qcy x l d k n∧qcy x l d k n<n:=by
 intro n
 induction n with
 |zero=>exact⟨Int.le_refl _,by unfold qcy;omega⟩
 |succ n ih=>
  unfold qcy;split
  ·omega
  ·omega
theorem qtD{x:Co}{l:List Un}{d:List Dc}{k:Nat}: ∀ {n j:Nat},qcy x l d k n=j->kF x l (d.getD j default)=k:=by
 intro n
 induction n with
 |zero=>intro j h;unfold qcy at h;omega
 |succ n ih=>
  intro j h;unfold qcy at h;split at h
  ·rename_i g;have e:n=j:=by omega
   rw[<-e];exact g
  ·exact ih h
theorem qdQ(x:Co)(s f:Nat): ∀d,(spk x s f d).length<=d:=by
 intro d
 induction d with
 |zero=>exact nlr _
 |succ d ih=>
  unfold spk;rw[lap];split
  ·simp only[lco,lnl];omega
  ·simp only[lnl];omega
theorem qtG{x:Co}{s f:Nat}{p:Pc}: ∀ {d:Nat},p∈spk x s f d↔ ∃k,f<=k∧k<f+d∧pcB x s k=true∧p=pcT x s k:=by
 intro d
 induction d with
 |zero=>
  constructor
  ·intro h;cases h
  ·rintro⟨k,h1,h2,_⟩;omega
 |succ d ih=>
  unfold spk;rw[List.mem_append,ih];constructor
  ·rintro (⟨k,h1,h2,h3⟩|h)
   ·exact⟨k,h1,om,h3⟩
   ·split at h
    ·rename_i g;rw[List.mem_singleton]at h;exact⟨f+d,om,om,g,h⟩
    ·cases h
  ·rintro⟨k,h1,h2,h3,h4⟩
   by_cases e:k<f+d
   ·exact .inl ⟨k,h1,e,h3,h4⟩
   ·have e:k=f+d:=by omega
    subst e;rw[ipo h3];exact .inr (List.mem_singleton.2 h4)
theorem jM(ps:List Pc)(u d:Int):(rwM ps u d).length=ps.length:=by unfold rwM;rw[List.length_map]
theorem kZ{ps:List Pc}{u d:Int}{r:Rw}:r∈rwM ps u d↔r.p∈ps∧r.u=u∧r.d=d:=by
 unfold rwM;rw[List.mem_map];constructor
 ·rintro⟨p,hp,rfl⟩;exact⟨hp,rfl,rfl⟩
 ·rintro⟨h1,h2,h3⟩;exact⟨r.p,h1,by cases r;cases h2;cases h3;rfl⟩
def qbY(b:List Wd):List Str:=b.map (·.text)
theorem qAg{t:Tk}(h:tkE t=0):txB t=true:=by
 unfold tkE at h;split at h
 ·cases h
 split at h
 ·cases h
 split at h
 ·cases h
 rename_i h3;simpa using h3
end RC
end
section
namespace Go.Proofs
open Go.Shelf
end Go.Proofs
end
section
open Go Go.Proofs Go.Sort AF HY LN
namespace RC
end RC
end
section
open Go Go.Proofs AF HY LN
namespace RC
theorem qdl{a b:En}:qca a b=false↔a.to<=b.frm∧ ¬(a.frm=b.frm∧a.to=b.to):=by
 unfold qca;rw[Bool.or_eq_false_iff,decide_eq_false_iff_not,Bool.and_eq_false_iff,decide_eq_false_iff_not,decide_eq_false_iff_not];omega
theorem qCX{L:List En}(hs:L.Pairwise λa b=>qgi b a=false)(hr: ∀e∈L,e.frm<=e.to)(hc:UF L=false):L.Pairwise λa b=>qca a b=false:=by
 induction L with
 |nil=>exact List.Pairwise.nil
 |cons a r ih=>
  have h0:=qmE hs hc;obtain⟨h1,h2⟩:=List.pairwise_cons.1 hs;have h3:=ih h2 (λe he=>hr e (List.mem_cons_of_mem _ he)) (qcP hc);refine List.pairwise_cons.2 ⟨?_,h3⟩;cases r with
  |nil=>intro z hz;cases hz
  |cons b r=>
   have hab:qca a b=false:=by
    rw[UF,Bool.or_eq_false_iff]at hc;exact hc.1
   intro z hz;have g0:=qap.1 ((List.pairwise_cons.1 h0).1 z hz);rcases List.mem_cons.1 hz with rfl|hz'
   ·exact hab
   ·have g1:=qdl.1 ((List.pairwise_cons.1 h3).1 z hz');have g2:=qdl.1 hab;have g3:=hr b (by simp);rw[qdl];omega
theorem qgn: ∀ {L:List En},(L.Pairwise λa b=>qca a b=false)->UF L=false
 | [],_=>rfl
 | [_],_=>rfl
 |a::b::r,h=>by
  obtain⟨h1,h2⟩:=List.pairwise_cons.1 h;rw[UF,h1 b (by simp),qgn h2];rfl
theorem qhV(names:List Str)(gs:List Gr)(l:List En)(src:Int)(p:En->Bool):ofE names gs (l.filter p) src=(ofE names gs l src).filter p:=by
 have h:=qeo qgk qgj p l [] List.Pairwise.nil;unfold ofE qvl;rw[List.filter_nil]at h;rw[<-h,List.filter_reverse,List.filter_reverse,List.filter_reverse,List.filter_filter,List.filter_filter];congr 2;funext x;exact Bool.and_comm _ _
theorem qCU{names:List Str}{gs:List Gr}{t:List Str}{l:List En}(h:qu6 names gs t l){s:Nat}(hs:s<names.length):(ofE names gs l (s:Int)).Pairwise λa b=>qca a b=false:=by
 refine qCX (qhW names gs l s) (λe he=> ?_) (U5 h.cl hs);have h1:e∈qvl l:=(List.mem_filter.1 he).1;have h2:=qkf.1 (h.ck e ((qeT l).subset h1));exact h2.rng.2.1
theorem qu6.filter{names:List Str}{gs:List Gr}{t:List Str}{l:List En}(h:qu6 names gs t l)(p:En->Bool):qu6 names gs t (l.filter p):=
 ⟨h.sg,Nat.le_trans (List.length_filter_le _ _) h.n,λe he=>h.ck e ((List.mem_filter.1 he).1),qq.2 λs hs=>by
  rw[qhV]
  exact qgn (List.Pairwise.filter _ (qCU h hs))⟩
end RC
end
section
open Go Go.Proofs AF
end
section
open Go Go.Proofs AF HY LN
namespace RC
end RC
end
section
open Go Go.Proofs AF
end
section
namespace Go.Proofs
open Go.Shelf Go.RowKit Go.Lib
end Go.Proofs
end
section
open Go Go.Proofs AF HY
namespace HY
end HY
end
section
open Go Go.Proofs AF HY LN
namespace HY
end HY
namespace RC
end RC
end
section
open Go Go.Proofs AF HY LN
namespace RC
end RC
end
section
open Go Go.Proofs AF
end
section
open Go Go.Proofs AF HY LN
namespace RC
deriving instance DecidableEq for Va
deriving instance DecidableEq for En
def tkS(s:Str):Tk:=⟨s,s,[],0,0,[]⟩
def qbG:Str:= [100,101,117,115]
def qvj:Str:= [101,115,116]
def CS:Str:= [98,111,110,117,115]
def xCo:Co:=⟨[97],[[65],[66]],[[tkS qbG,tkS qvj,tkS CS],[tkS qbG,tkS CS]],[[0,0],[1,-1],[2,1]]⟩
def xUn:List Un:= [⟨1,2,[⟨[qvj],[0]⟩,⟨[],[1]⟩]⟩]
end RC
end
section
namespace AF
open Go
end AF
end
section
open Go Go.Proofs AF HY LN
namespace RC
theorem il2{f g:Nat->wj}(h0:f 0=g 0)(h1:f 1=g 1):ILe (.sl 2 f) (.sl 2 g):=ILe.sl_eq λi hi=>by
 match i,hi with
 |0,_=>exact h0
 |1,_=>exact h1
 |n+2,hi=>exact absurd hi om
theorem il3{f g:Nat->wj}(h0:f 0=g 0)(h1:f 1=g 1)(h2:f 2=g 2):ILe (.sl 3 f) (.sl 3 g):=ILe.sl_eq λi hi=>by
 match i,hi with
 |0,_=>exact h0
 |1,_=>exact h1
 |2,_=>exact h2
 |n+3,hi=>exact absurd hi om
theorem vl2{f g:Nat->wj}(h0:qan (f 0) (g 0))(h1:qan (f 1) (g 1)):VLe (.sl 2 f) (.sl 2 g):=VLe.sl λi hi=>by
 match i,hi with
 |0,_=>exact h0
 |1,_=>exact h1
 |n+2,hi=>exact absurd hi om
theorem vl3{f g:Nat->wj}(h0:qan (f 0) (g 0))(h1:qan (f 1) (g 1))(h2:qan (f 2) (g 2)):VLe (.sl 3 f) (.sl 3 g):=VLe.sl λi hi=>by
 match i,hi with
 |0,_=>exact h0
 |1,_=>exact h1
 |2,_=>exact h2
 |n+3,hi=>exact absurd hi om
theorem ie{a b:AV}(h:a=b):ILe a b:=by rw[h];exact ILe.refl _
section
variable {q : En -> Bool} {L : List En} {J : Nat}
end
section
variable {k v w : Nat} {h l : wh} {ty : TypeId} {cs : wj}
end
theorem qqO(b:List Wd)(h:wh)(hn:b.length<=1000000):ACalls Tryz.prog 19 [kn b] h (strs (qbY b)) h:=by
 refine acO qCe ?_;simp (disch:=omega) only[qDx,kn,go_sem];refine qn (T:=λs:Nat×Nat×AObj×AObj=>qO 19 [(6,kn b),(7,.int .i64 b.length),(8,.int .i64 s.1),(3,.osl (h.length+1) s.2.1 1 0 s.1)])
  (H:=λs=>h++ [.emp 1,zg s.2.1 9 (jl (qbY (b.take s.1))),s.2.2.1,s.2.2.2,.emp 0])
  (inv:=λs=>s.1<=b.length∧qy [s.2.2.1] 0=true∧qy [s.2.2.2] 0=true) (m:=λs=>b.length-s.1) (0,1,.emp 0,.emp 0) ⟨nzl _,rfl,rfl⟩ (Wk.temps ?_) ?_
 ·(simp only[kn,go_sem,qf,qc,qa,qe];try exact we)
 rintro⟨i,v,O1,O2⟩ ⟨i1,i2,i3⟩ K hK;simp only at i1 i2 i3 hK;have i2': ∀m,qy (O1::m) 0=true:=λ_=>i2
 have i3': ∀m,qy (O2::m) 0=true:=λ_=>i3
 have eL:(qbY (b.take i)).length=i:=by unfold qbY;rw[List.length_map,List.length_take];omega
 by_cases hi:i<b.length
 ·have k1:((i:Int)<b.length)=True:=wl;have hS:qbY (b.take (i+1))=qbY (b.take i)++ [(b.getD i default).text]:=by
   unfold qbY;rw[List.take_add_one,zz hi,gdqA,zz hi,List.map_append];rfl
  obtain⟨L,hL⟩:=wg (qbY (b.take i))
  rw[<-hL]at hS eL ⊢;obtain⟨w,hw⟩:=wg (b.getD i default)
  have ew:=hw.symm;rw[ew]at hS;have eC:=jh L;have eTk:List.take i (jl L)=jl L:=ltl om;simp (disch:=omega) only[kn,wdC,k1,ew,i2',i3',eC,eL,eTk,Nat.mul_one,go_sem]
  repeat' first|with_reducible apply aiA|exact clz|fail
  have eA:jl L++ [AV.str w.text]=jl (L++ [w.text]):=by simp[jl]
  have eD:(AV.str w.text::List.drop 1 (zk [AV.str []] 1))= [AV.str w.text]:=rfl;rw[eA,eD];refine hK _ _ (i+1,v+1,.mem (qo (some O1)+1) 133 (wdC w),.mem (qo (some O2)+1) 9 [.str w.text]) ⟨hi,rfl,rfl⟩ (by simp only;omega) ?_;simp only[hS,wdC];refine Wk.temps ?_
  (simp only[kn,wdC,go_sem,qf,qc,qa,qe];try exact we)
 have k1:((i:Int)<b.length)=False:=wm;obtain rfl:i=b.length:=by omega
 rw[List.take_length]at eL ⊢;simp (disch:=omega) only[k1,go_sem]
 repeat' first|(apply qb;exact rvk;simp only[go_sem])
 exact qaL (λ_=>rfl) eL.symm
def qEF(names:List Str)(gs:List Gr)(p:Un)(v:Va):Bool:=decide (qhC names gs v.sigla=0)&&jv (λj=>decide ((p.rds.getD j default).words=v.words)&&decide ((p.rds.getD j default).src=qcr names gs v.sigla)) p.rds.length
def qEd(p:Un)(w:List Str):Nat->List Int
 |0=> []
 |j+1=>if (p.rds.getD j default).words=w then (p.rds.getD j default).src else qEd p w j
def okB(names:List Str)(gs:List Gr)(w:List Str)(p:Un)(e:En):Bool:=
 if jv (λj=> !qEF names gs p (e.vars.getD j default)) e.vars.length=true then false else if e.pos=false then decide (e.sup.length=0) else
  decide (qhC names gs e.sup=0)&&decide (qcr names gs e.sup=qEd p (qnx w e.frm.toNat e.to.toNat) p.rds.length)
def jD(L:List Wd):wj:=L.flatMap wdC
theorem qgb(e:Wd):(wdC e).length=7:=rfl
theorem qhf(L:List Wd):(jD L).length=L.length*7:=by
 unfold jD
 induction L with
 |nil=>rfl
 |cons a L ih=>rw[List.flatMap_cons,lap,ih,lco,qgb];omega
theorem qqK(A B:List Wd):jD (A++B)=jD A++jD B:=by simp[jD]
theorem qqL(a:Wd):jD [a]=wdC a:=by simp[jD]
theorem qnp(L:List Wd): ∀i,(jD L).drop (i*7)=jD (L.drop i):=by
 induction L with
 |nil=>intro i;simp[jD]
 |cons a L ih=>
  intro i;cases i with
  |zero=>simp
  |succ i=>
   have e:jD (a::L)=wdC a++jD L:=rfl;rw[List.drop_succ_cons,e,List.drop_append,qgb,show (i+1)*7-7=i*7 by omega,ih];rw[List.drop_eq_nil_of_le (by rw[qgb];omega)];rfl
theorem qhe{L:List Wd}{i:Nat}(hi:i<L.length):((jD L).drop (i*7)).take 7=wdC (L.getD i default):=by
 rw[qnp,List.drop_eq_getElem_cons hi,gdqA,zz hi];rfl
theorem qb0(L:List Wd)(n:Nat): ∀c∈jD L,qT n c=true:=by
 intro c hc;unfold jD at hc;obtain⟨x,_,hx⟩:=List.mem_flatMap.1 hc;simp only[wdC,List.mem_cons,List.not_mem_nil,or_false]at hx;rcases hx with rfl|rfl|rfl|rfl|rfl|rfl|rfl<;>rfl
section
variable {q : Wd -> Bool} {L : List Wd} {J : Nat}
end
theorem qE7(b:List Wd)(k:Int)(h:wh)(hn:b.length<=1000000):ACalls Tryz.prog 90 [kn b,.int .i64 k] h (strs (owG b k b.length)) h:=by
 refine acO qCv ?_;simp (disch:=omega) only[qDN,kn,go_sem];refine qn (T:=λs:Nat×Nat×AObj×AObj=>qO 25 [(1,.int .i64 k),(8,kn b),(9,.int .i64 b.length),(10,.int .i64 s.1),(5,.osl (h.length+1) s.2.1 1 0 (owG b k s.1).length)])
  (H:=λs=>h++ [.emp 1,zg s.2.1 9 (jl (owG b k s.1)),s.2.2.1,s.2.2.2,.emp 0])
  (inv:=λs=>s.1<=b.length∧qy [s.2.2.1] 0=true∧qy [s.2.2.2] 0=true) (m:=λs=>b.length-s.1) (0,1,.emp 0,.emp 0) ⟨nzl _,rfl,rfl⟩ (Wk.temps ?_) ?_
 ·(simp only[kn,owG,go_sem,qf,qc,qa,qe];try exact we)
 rintro⟨i,v,O1,O2⟩ ⟨i1,i2,i3⟩ K hK;simp only at i1 i2 i3 hK;have i2': ∀m,qy (O1::m) 0=true:=λ_=>i2
 have i3': ∀m,qy (O2::m) 0=true:=λ_=>i3
 have ol: ∀n,(owG b k n).length<=n:=by
  intro n
  induction n with
  |zero=>exact nlr _
  |succ n ih=>
   unfold owG;rw[lap];split
   ·simp only[lco,lnl];omega
   ·simp only[lnl];omega
 have hol:=ol i
 by_cases hi:i<b.length
 ·have k1:((i:Int)<b.length)=True:=wl;have hS:owG b k (i+1)=owG b k i++if (b.getD i default).unit=k then [(b.getD i default).text] else []:=rfl
  obtain⟨L,hL⟩:=wg (owG b k i)
  rw[<-hL]at hS hol ⊢;obtain⟨w,hw⟩:=wg (b.getD i default)
  have ew:=hw.symm;rw[ew]at hS;have eC:=jh L;have eTk:List.take L.length (jl L)=jl L:=ltl om
  by_cases g:w.unit=k
  ·have q1:(w.unit=k)=True:=eqt g;rw[ipo g]at hS;simp (disch:=omega) only[kn,wdC,k1,ew,i2',i3',q1,eC,eTk,Nat.mul_one,go_sem]
   repeat' first|with_reducible apply aiA|exact clz|fail
   have eA:jl L++ [AV.str w.text]=jl (L++ [w.text]):=by simp[jl]
   have eD:(AV.str w.text::List.drop 1 (zk [AV.str []] 1))= [AV.str w.text]:=rfl;rw[eA,eD];refine hK _ _ (i+1,v+1,.mem (qo (some O1)+1) 133 (wdC w),.mem (qo (some O2)+1) 9 [.str w.text]) ⟨hi,rfl,rfl⟩ (by simp only;omega) ?_;simp only[hS,wdC,lap,lco,lnl];refine Wk.temps ?_
   (simp only[kn,wdC,go_sem,qf,qc,qa,qe];try exact we)
  ·have q1:(w.unit=k)=False:=eqf g;rw[ine g,lan]at hS;simp (disch:=omega) only[kn,wdC,k1,ew,i2',i3',q1,go_sem]
   repeat' first|with_reducible apply aiA|exact clz|fail
   refine hK _ _ (i+1,v,.mem (qo (some O1)+1) 133 (wdC w),O2) ⟨hi,rfl,i3⟩ (by simp only;omega) ?_;simp only[hS,wdC];refine Wk.temps ?_
   (simp only[kn,wdC,go_sem,qf,qc,qa,qe];try exact we)
 have k1:((i:Int)<b.length)=False:=wm;obtain rfl:i=b.length:=by omega
 simp (disch:=omega) only[k1,go_sem]
 repeat' first|(apply qb;exact rvk;simp only[go_sem])
 exact qaL (λ_=>rfl) rfl
end RC
end
section
open Go Go.Proofs AF
def zy:List Nat:= []
def qwr:C:=
 (vU [⟨some 2,none,.alloc 0 28 [i6 0],[]⟩] (vU [⟨some 3,none,.alloc 1 3 [i6 0],[]⟩,⟨none,none,.store 1,[.t 3,.c (i6 4096)]⟩] (vU [O1 8 (.mkfn (Fn.func 337) 0) 3,⟨some
 4,none,.alloc 2 30 [.nilfn],[]⟩,ST 1 4 8] ((vU [MV 9 0,O1 10 (.call 338 true) 9] (C.block 0 (C.range (.t 10) [11] (vY [⟨some 5,none,.alloc 3 386 [i6 0,.str [],i6 0,.nl,i6
 0,.bool false],[]⟩,ST 6 5 11]) (C.block 1 (vU [LD 12 4,O1 13 .callv 12,O1 14 (.un UnOp.not) 13,MV 15 14,v7 16 15 4 5,v8 17 15 16,vT 18 15 (.bin .geq) 17 (i6 16),vS 19 15 18,P1
 20 19 true (.fldA 0) 5,P1 21 19 true (.fldA 3) 20,P1 22 19 true (.load none) 21,P1 23 19 true .len 22,PC 24 19 true (.bin .gtr) 23 (i6 0),QF 25 15 false 19 24,PT 26 15 25] (vV
 26 (vX [⟨none,none,.store 1,[.t 2,.c (i6 4)]⟩]))))))).seq ((vU [MV 27 0,O1 28 (.call 338 true) 27] (C.block 2 (C.range (.t 28) [29] (vY [⟨some 6,none,.alloc 4 386 [i6 0,.str
 [],i6 0,.nl,i6 0,.bool false],[]⟩,ST 6 6 29]) (C.block 3 (vU [O1 30 (.load (some 6)) 6,O1 31 (.call 339 true) 30,MV 7 31] (vU [MV 32 7,vP 33 .neq 32 0] (vV 33 (vX [MV 34 7,ST 1
 2 34])))))))).seq ((vU [MV 35 0,O1 36 (.call 340 true) 35,O1 37 .slen 36,vP 38 .gtr 37 65536] (vV 38 (vX [⟨none,none,.store 1,[.t 2,.c (i6 4)]⟩]))).seq (vX [⟨none,none,.store
 1,[.t 2,.c (i6 0)]⟩])))))))
theorem qyg:qI Tryz.prog 283 39 5 [RV.cell 2 none] qwr:=fi Tryz.f283 [2,3,4,5,6] zy []
def qwA:C:=
 (vU [MC 1 (.bool false)] (vU [LD 2 0,vP 3 .sub 2 1,ST 1 0 3] (vX [LD 4 0,vP 5 .geq 4 0,MV 1 5])))
theorem qyr:qI Tryz.prog 337 6 0 [RV.tmp 1] qwA:=fi Tryz.f337 [] zy []
def qwB:C:=
 (vU [O1 1 (.box 0 232) 0,MC 2 .nilfn] (vX [O1 3 (.mkfn (Fn.func 372) 0) 1,MV 2 3]))
theorem qys:qI Tryz.prog 338 4 1 [RV.tmp 2] qwB:=fi Tryz.f338 [1] zy []
def qwJ:C:=
 (vU [O1 2 (.box 0 411) 0] (vU [⟨some 3,none,.alloc 1 412 [.nilfn],[]⟩] (vU [O2 4 (.mkfn (Fn.func 373) 0) 2 3,ST 1 3 4] (vY [LD 5 3,LD 6 1,ON 7 .callv [.t 5,.t 6,.c (i6 0)]]))))
theorem qyB:qI Tryz.prog 372 8 2 [] qwJ:=fi Tryz.f372 [2,3] zy []
def qsq:C:=
 (vU [MC 6 (.bool false)] (vU [MC 7 (.bool false)] ((vU [MV 10 0,O1 11 .len 10,vO 12 0] (C.block 0 (vU [BI 13 .lss 12 11] ((vW 13 0).seq ((C.block 1 (vU [O2 14 (.idxA 4) 10 12,O1
 15 (.load (some 4)) 14,⟨some 9,none,.alloc 0 234 [i6 0,.str [],i6 0,.nl],[]⟩,ST 4 9 15] ((vU [LD 16 2,O1 17 (.load (some 4)) 9,MV 18 1,MV 19 7,⟨some 20,none,.build [i6 0,.str
 [],i6 0,.nl,i6 0,.bool false] [(0,4),(4,1),(5,1)],[.t 17,.t 18,.t 19]⟩,O2 21 .callv 16 20,O1 22 (.un UnOp.not) 21,MV 23 22,vS 24 23 1,vT 25 23 (.bin .leq) 24 (i6 16),vS 26 23
 25,P1 27 26 true (.load none) 3,P1 28 26 true (.fldA 3) 9,P1 29 26 true (.load none) 28,MG 30 26 true 1,PC 31 26 true (.bin .add) 30 (i6 1),PN 32 26 true .callv [.t 27,.t 29,.t
 31],P1 33 26 true (.un UnOp.not) 32,QF 34 23 false 26 33,PT 35 23 34] (vV 35 (vX [MC 6 (.bool false)]))).seq (vY [vN 36 0 9,LD 37 36,vP 38 .eql 37 1,MV 7 38])))).seq (vY [vP 39
 .add 12 1,MV 12 39])))).loop)).seq (vX [MC 6 (.bool true)]))))
theorem qrq:qI Tryz.prog 373 40 1 [RV.tmp 6] qsq:=fi Tryz.f373 [9] zy []
def qwC:C:=
 (vU [O1 1 (.box 0 386) 0,vO 2 0] (vU [vN 6 0 1,O1 7 (.load (some 4)) 6,⟨some 3,none,.alloc 1 234 [i6 0,.str [],i6 0,.nl],[]⟩,ST 4 3 7] ((vU [vN 8 0 3,LD 9 8,vP 10 .lss 9 1,MV 11
 10,v7 12 11 0 3,v8 13 11 12,vT 14 11 (.bin .gtr) 13 (i6 11),PT 15 11 14] (vV 15 (vX [vO 2 8]))).seq (vU [vN 16 0 3,LD 17 16,O1 18 (.gix 4 12 4) 17,O1 19 (.load (some 4))
 18,⟨some 4,none,.alloc 2 414 [.str [],.bool false,.bool false,.bool false],[]⟩,ST 4 4 19] (vU [vN 20 0 3,LD 21 20,vP 22 .eql 21 6,MV 5 22] ((C.block 0 (vU [vN 24 1 4,LD 25
 24,O1 26 (.un UnOp.not) 25,MV 27 26,P1 28 27 true (.fldA 1) 3,P1 29 27 true (.load none) 28,PC 30 27 true (.bin .neq) 29 (.str []),PF 31 27 30,MV 32 31,v7 33 32 2 4,v8 34 32
 33,vQ 35 32 (.un UnOp.not) 34,vS 36 32 35,P1 37 36 true (.fldA 2) 3,P1 38 36 true (.load none) 37,PC 39 36 true (.bin .neq) 38 (i6 0),QF 40 32 false 36 39,PT 41 32 40,MV 42
 41,v7 43 42 3 4,v8 44 42 43,vQ 45 42 (.un UnOp.not) 44,vS 46 42 45,P1 47 46 true (.fldA 3) 3,P1 48 46 true (.load none) 47,P1 49 46 true .len 48,PC 50 46 true (.bin .gtr) 49
 (i6 0),QF 51 42 false 46 50,PT 52 42 51,MV 23 52] (C.cond (.t 23) (vX [vO 2 8]) (vU [vN 54 0 3,LD 55 54,vP 56 .eql 55 1,MV 57 56,P1 58 57 true (.fldA 1) 3,P1 59 57 true (.load
 none) 58,PC 60 57 true (.bin .eql) 59 (.str []),PF 61 57 60,MV 62 61,v7 63 62 3 4,v8 64 62 63,vS 65 62 64,P1 66 65 true (.fldA 3) 3,P1 67 65 true (.load none) 66,P1 68 65 true
 .len 67,PC 69 65 true (.bin .eql) 68 (i6 0),QF 70 62 false 65 69,PT 71 62 70,MV 53 71] (C.cond (.t 53) (vX [vO 2 5]) (vU [vN 73 0 3,LD 74 73,vP 75 .eql 74 1,MV 76 75,P1 77 76
 true (.fldA 1) 3,P1 78 76 true (.load none) 77,P1 79 76 true (.call 219 true) 78,PC 80 76 true (.bin .neq) 79 (i6 0),PF 81 76 80,MV 72 81] (C.cond (.t 72) (vX [vO 2 11]) ((vU
 [vN 83 0 3,LD 84 83,vP 85 .eql 84 10,MV 86 85,P1 87 86 true (.fldA 1) 3,P1 88 86 true (.load none) 87,P1 89 86 true (.call 145 true) 88,P1 90 86 true (.un UnOp.not) 89,PF 91 86
 90,MV 82 91] (C.cond (.t 82) C.skip (vY [vN 92 1 4,LD 93 92,MV 94 93,P1 95 94 true (.fldA 0) 3,P1 96 94 true (.load none) 95,PC 97 94 true (.bin .neq) 96 (i6 1),PF 98 94 97,MV
 99 98,P1 100 99 true (.fldA 0) 3,P1 101 99 true (.load none) 100,PC 102 99 true (.bin .neq) 101 (i6 10),PF 103 99 102,MV 104 103,P1 105 104 true (.fldA 1) 3,P1 106 104 true
 (.load none) 105,P1 107 104 true (.call 181 true) 106,P1 108 104 true (.un UnOp.not) 107,PF 109 104 108,MV 82 109]))).seq (C.cond (.t 82) (vX [vO 2 14]) ((vU [vN 111 2 4,LD 112
 111,MV 113 112,P1 114 113 true (.fldA 2) 3,P1 115 113 true (.load none) 114,PC 116 113 true (.bin .lss) 115 (i6 1),PF 117 113 116,MV 110 117] (C.cond (.t 110) C.skip (vU [MV
 118 5,MV 119 118,P1 120 119 true (.fldA 2) 3,P1 121 119 true (.load none) 120,PC 122 119 true (.bin .gtr) 121 (i6 64),PF 123 119 122,MV 110 123] (C.cond (.t 110) C.skip (vY [vN
 124 2 4,LD 125 124,MV 126 125,MG 127 126 true 5,P1 128 126 true (.un UnOp.not) 127,PF 129 126 128,MV 130 129,P1 131 130 true (.fldA 2) 3,P1 132 130 true (.load none) 131,PC 133
 130 true (.bin .gtr) 132 (i6 8),PF 134 130 133,MV 110 134]))))).seq (C.cond (.t 110) (vX [vO 2 2]) (vU [vN 136 0 3,LD 137 136,vP 138 .eql 137 1,MV 139 138,P1 140 139 true
 (.fldA 5) 1,P1 141 139 true (.load none) 140,PF 142 139 141,MV 135 142] (C.cond (.t 135) (vX [vO 2 10]) (vU [vN 144 0 3,LD 145 144,vP 146 .eql 145 4,MV 147 146,P1 148 147 true
 (.fldA 4) 1,P1 149 147 true (.load none) 148,PC 150 147 true (.bin .gtr) 149 (i6 0),PF 151 147 150,MV 143 151] (vV 143 (vX [vO 2 12])))))))))))))))).seq (vX [vO 2 0])))))))
theorem qyt:qI Tryz.prog 339 152 3 [RV.tmp 2] qwC:=fi Tryz.f339 [1,3,4] zy []
def qwt:C:=
 (vU [O1 3 (.box 0 3) 1,vO 4 0,vO 5 0] ((vU [MV 8 0,O1 9 (.call 283 true) 8,vP 10 .neq 9 0] (vV 10 (vX [vO 4 0,vO 5 1]))).seq ((vU [LD 11 3,vP 12 .lss 11 1,MV 13 12,v8 14 13 3,vT
 15 13 (.bin .gtr) 14 (i6 11),PT 16 13 15] (vV 16 (vX [vO 4 0,vO 5 8]))).seq (vU [⟨some 6,none,.alloc 1 3 [i6 0],[]⟩,⟨none,none,.store 1,[.t 6,.c (i6 0)]⟩] ((vU [MV 17 0,O1 18
 (.call 338 true) 17] (C.block 0 (C.range (.t 18) [19] (vY [⟨some 7,none,.alloc 2 386 [i6 0,.str [],i6 0,.nl,i6 0,.bool false],[]⟩,ST 6 7 19]) (C.block 1 (vU [vN 20 0 7,vN 21 0
 20,LD 22 21,LD 23 3,BI 24 .eql 22 23] (vV 24 (vY [LD 25 6,vP 26 .add 25 1,ST 1 6 26]))))))).seq (vX [LD 27 6,MV 4 27,vO 5 0]))))))
theorem qyi:qI Tryz.prog 285 28 3 [RV.tmp 4,RV.tmp 5] qwt:=fi Tryz.f285 [3,6,7] zy []
def qws:C:=
 (vU [vO 2 0] ((vU [MV 6 0,O1 7 .len 6,vP 8 .gtr 7 64] (vV 8 (vX [vO 2 4]))).seq ((vU [MV 9 0,O1 10 .len 9,vO 11 0] (C.block 0 (vU [BI 12 .lss 11 10] ((vW 12 0).seq ((C.block 1
 (vU [O2 13 (.idxA 2) 9 11,O1 14 (.load (some 2)) 13,⟨some 4,none,.alloc 0 357 [.str [],.str []],[]⟩,ST 2 4 14] (vU [O1 15 (.load (some 2)) 4,O1 16 (.call 341 true) 15,MV 5 16]
 (vU [MV 17 5,vP 18 .neq 17 0] (vV 18 (vX [MV 19 5,MV 2 19])))))).seq (vY [vP 20 .add 11 1,MV 11 20])))).loop)).seq (vX [vO 2 0]))))
theorem qyh:qI Tryz.prog 284 21 1 [RV.tmp 2] qws:=fi Tryz.f284 [4] zy []
def qwI:C:=
 (vU [MC 4 (.str []),vO 5 0] (vU [MV 9 0,MV 10 1,O2 11 (.call 378 true) 9 10,MV 8 11,O1 12 (.ext 0) 8,O1 13 (.ext 1) 8,MV 6 12,MV 7 13] ((vU [MV 14 7,vP 15 .neq 14 0] (vV 15 (vX
 [MV 16 7,MC 4 (.str []),MV 5 16]))).seq (vX [MV 17 6,MV 18 6,O1 19 .len 18,vP 20 .sub 19 1,O2 21 (.idxA 1) 17 20,LD 22 21,MV 4 22,vO 5 0]))))
theorem qyA:qI Tryz.prog 348 23 0 [RV.tmp 4,RV.tmp 5] qwI:=fi Tryz.f348 [] zy []
def qwN:C:=
 (vU [ON 4 (.nilo 0 1 9) [],vO 5 0] ((vU [MV 7 0,MV 8 1,O2 9 (.call 386 true) 7 8,MV 6 9] (vU [MV 10 6,vP 11 .neq 10 0] (vV 11 (vX [MV 12 6,ON 4 (.nilo 0 1 9) [],MV 5 12])))).seq
 (vX [MV 13 0,MV 14 1,O2 15 (.call 387 true) 13 14,O1 16 (.ext 0) 15,O1 17 (.ext 1) 15,MV 4 16,MV 5 17])))
theorem qyF:qI Tryz.prog 378 18 1 [RV.tmp 4,RV.tmp 5] qwN:=fi Tryz.f378 [4] zy []
def qwP:C:=
 (vU [ON 4 (.nilo 0 1 9) [],vO 5 0] (vU [MV 9 1,⟨some 10,none,.bslc 1 1 1 9 [.str []] [(0,1)],[.t 9]⟩,MV 6 10] (C.block 0 (C.block 1 (vU [MV 12 0,MV 13 6,MV 14 6,O1 15 .len 14,vP
 16 .sub 15 1,O2 17 (.idxA 1) 13 16,LD 18 17,O2 19 (.call 390 true) 12 18,MV 11 19,O1 20 (.ext 0) 11,O1 21 (.ext 1) 11,MV 7 20,MV 8 21] ((vU [MV 22 8,O1 23 (.un UnOp.not) 22]
 (vV 23 (vX [MV 24 6,MV 4 24,vO 5 0]))).seq ((vU [MV 25 6,O1 26 .len 25,vP 27 .eql 26 4096] (vV 27 (vX [ON 4 (.nilo 0 1 9) [],vO 5 4]))).seq (vY [MV 28 6,MV 29 7,⟨some
 30,none,.bslc 2 1 1 9 [.str []] [(0,1)],[.t 29]⟩,O2 31 (.app 3 1 9 16) 28 30,MV 6 31]))))).loop)))
theorem qyI:qI Tryz.prog 387 32 4 [RV.tmp 4,RV.tmp 5] qwP:=fi Tryz.f387 [4,10,30,31] zy []
def qwO:C:=
 (vU [vO 4 0] ((C.block 0 (vU [MV 6 0,O1 7 (.call 284 true) 6,vP 8 .neq 7 0,MV 5 8] (C.cond (.t 5) (vX [vO 4 1]) (vU [MV 10 1,O1 11 .slen 10,vP 12 .gtr 11 64,MV 9 12] (C.cond (.t
 9) (vX [vO 4 4]) (vU [MV 14 1,O1 15 (.call 376 true) 14,O1 16 (.un UnOp.not) 15,MV 13 16] (vV 13 (vX [vO 4 11])))))))).seq (vX [vO 4 0])))
theorem qyH:qI Tryz.prog 386 17 0 [RV.tmp 4] qwO:=fi Tryz.f386 [] zy []
def qwL:C:=
 (vU [MC 2 (.bool false)] ((vU [MV 4 0,O1 5 .slen 4,vO 6 0] (C.block 0 (vU [BI 7 .lss 6 5] ((vW 7 0).seq ((C.block 1 (vU [MV 8 6,MV 3 8] (vU [MV 9 0,MV 10 3,O2 11 .sidx 9 10,O1
 12 (.call 220 true) 11] (C.block 2 ((vU [vP 14 .eql 12 1,MV 13 14] (C.cond (.t 13) C.skip (vU [vP 15 .eql 12 2,MV 13 15] (C.cond (.t 13) C.skip (vU [vP 16 .eql 12 3,MV 13 16]
 (C.cond (.t 13) C.skip (vY [vP 17 .eql 12 4,MV 13 17]))))))).seq (C.cond (.t 13) C.skip (vX [MC 2 (.bool false)]))))))).seq (vY [vP 18 .add 6 1,MV 6 18])))).loop)).seq (vX [MC
 2 (.bool true)])))
theorem qyD:qI Tryz.prog 376 19 0 [RV.tmp 2] qwL:=fi Tryz.f376 [] zy []
def qwQ:C:=
 (vU [⟨some 4,none,.alloc 0 9 [.str []],[]⟩,⟨some 5,none,.alloc 1 4 [.bool false],[]⟩] ((vU [MV 7 0,MV 8 1,O2 9 (.call 391 true) 7 8] (C.block 0 (C.range (.t 9) [10] (vY [MV 6
 10]) (C.block 1 (vX [MV 11 6,ST 1 4 11,⟨none,none,.store 1,[.t 5,.c (.bool true)]⟩]))))).seq (vX [MV 12 1,ST 1 4 12,⟨none,none,.store 1,[.t 5,.c (.bool false)]⟩])))
theorem qyJ:qI Tryz.prog 390 13 2 [RV.cell 4 none,RV.cell 5 none] qwQ:=fi Tryz.f390 [4,5] zy []
def qwR:C:=
 (vU [O1 2 (.box 0 296) 0,O1 3 (.box 1 9) 1,MC 4 .nilfn] (vX [O2 5 (.mkfn (Fn.func 392) 0) 3 2,MV 4 5]))
theorem qyK:qI Tryz.prog 391 6 2 [RV.tmp 4] qwR:=fi Tryz.f391 [2,3] zy []
def qwS:C:=
 (vU [LD 9 1,O1 10 .slen 9,vO 11 0] (C.block 0 (vU [BI 12 .lss 11 10] ((vW 12 0).seq ((C.block 1 (vU [MV 13 11,MV 4 13] (vU [LD 14 2,O1 15 .len 14,vO 16 0] (C.block 2 (vU [BI 17
 .lss 16 15] ((vW 17 2).seq ((C.block 3 (vU [O2 18 (.idxA 2) 14 16,O1 19 (.load (some 2)) 18,⟨some 6,none,.alloc 0 357 [.str [],.str []],[]⟩,ST 2 6 19] (vU [LD 21 1,MV 22 4,O2
 23 (.sslc true false) 21 22,vN 24 0 6,LD 25 24,O2 26 (.call 264 true) 23 25,MV 20 26,O1 27 (.ext 0) 20,O1 28 (.ext 1) 20,MV 7 27,MV 8 28] (vU [MV 29 8,MV 30 29,MG 31 30 true
 0,P1 32 30 true (.load none) 1,MG 33 30 true 4,P2 34 30 true (.sslc false true) 32 33,P1 35 30 true (.fldA 1) 6,P1 36 30 true (.load none) 35,P2 37 30 true (.bin .add) 34 36,MG
 38 30 true 7,P2 39 30 true (.bin .add) 37 38,P2 40 30 true .callv 31 39,P1 41 30 true (.un UnOp.not) 40,PF 42 30 41] (vV 42 C.ret))))).seq (vY [vP 43 .add 16 1,MV 16
 43])))).loop)))).seq (vY [vP 44 .add 11 1,MV 11 44])))).loop))
theorem qyL:qI Tryz.prog 392 45 1 [] qwS:=fi Tryz.f392 [6] zy []
def qwu:C:=
 (vU [O1 2 (.box 0 117) 0,O1 3 (.box 1 232) 1,MC 4 .nilfn] (vX [O2 5 (.mkfn (Fn.func 342) 0) 2 3,MV 4 5]))
theorem qyj:qI Tryz.prog 286 6 2 [RV.tmp 4] qwu:=fi Tryz.f286 [2,3] zy []
def qwE:C:=
 (vU [O1 3 (.box 0 389) 0] (vU [O1 6 (.load (some 2)) 1,⟨some 7,none,.build [i6 0,.int .u8 0,i6 0,.str [],i6 0,.bool false,.str []] [(3,2)],[.t 6]⟩,⟨some 4,none,.alloc 1 348 [i6
 0,.int .u8 0,i6 0,.str [],i6 0,.bool false,.str []],[]⟩,ST 7 4 7] (vU [⟨some 5,none,.alloc 2 390 [.nilfn],[]⟩] (vU [ON 8 (.mkfn (Fn.func 343) 0) [.t 4,.t 3,.t 5],ST 1 5 8] (vY
 [LD 9 5,LD 10 2,O2 11 .callv 9 10])))))
theorem qyw:qI Tryz.prog 342 12 3 [] qwE:=fi Tryz.f342 [3,4,5] zy []
@[go_sem]def vd:DT:= DT.one ⟨some 22,none,.fldA 2,[.t 1]⟩ (DT.one ⟨none,none,.store 1,[.t 22,.t 20]⟩ DT.nil)
@[go_sem]def vf:DT:= DT.one ⟨some 49,none,.fldA 6,[.t 1]⟩ (DT.one ⟨none,none,.store 1,[.t 49,.t 47]⟩ DT.nil)
def qwF:C:=
 (vU [MC 5 (.bool false)] ((vU [MV 11 0,O1 12 .len 11,vO 13 0] (C.block 0 (vU [BI 14 .lss 13 12] ((vW 14 0).seq ((C.block 1 (vU [O2 15 (.idxA 4) 11 13,O1 16 (.load (some 4))
 15,⟨some 7,none,.alloc 0 234 [i6 0,.str [],i6 0,.nl],[]⟩,ST 4 7 16] ((C.draw (DT.one ⟨some 17,none,.fldA 0,[.t 7]⟩ (DT.one ⟨some 18,none,.load none,[.t 17]⟩ (DT.one ⟨some
 21,none,.fldA 0,[.t 1]⟩ ((DT.one ⟨some 19,none,.fldA 2,[.t 7]⟩ ((DT.one ⟨some 20,none,.load none,[.t 19]⟩ (DT.one ⟨none,none,.store 1,[.t 21,.t 18]⟩ vd)).two (DT.one
 ⟨none,none,.store 1,[.t 21,.t 18]⟩ (DT.one ⟨some 20,none,.load none,[.t 19]⟩ vd)))).two (DT.one ⟨none,none,.store 1,[.t 21,.t 18]⟩ (DT.one ⟨some 19,none,.fldA 2,[.t 7]⟩ (DT.one
 ⟨some 20,none,.load none,[.t 19]⟩ vd)))))))).seq (vU [vN 23 0 7,LD 24 23] (C.block 2 (vU [vP 53 .eql 24 2,MV 52 53] (C.cond (.t 52) (vY [vN 54 3 1,vN 55 1 54,LD 56 55,vP 57
 .add 56 1,vN 58 3 1,vN 59 1 58,ST 1 59 57]) (vU [vP 61 .eql 24 3,MV 60 61] (C.cond (.t 60) (vY [vN 62 1 7,LD 63 62,⟨some 64,none,.build [.str [],i6 0] [(0,1)],[.t 63]⟩,vN 65 3
 1,ST 2 65 64]) (vU [vP 67 .eql 24 1,MV 66 67] (C.cond (.t 66) (vU [vN 68 1 7,LD 69 68,O1 70 .slen 69,vO 71 0] (C.block 3 (vU [BI 72 .lss 71 70] ((vW 72 3).seq ((C.block 4 (vU
 [MV 73 71,MV 8 73] (vU [vN 74 1 7,LD 75 74,MV 76 8,O2 77 .sidx 75 76,vN 78 1 1,ST 1 78 77] (vU [LD 79 2,O1 80 (.load (some 7)) 1,O2 81 .callv 79 80,O1 82 (.un UnOp.not) 81] (vV
 82 (vX [MC 5 (.bool false)])))))).seq (vY [vP 83 .add 71 1,MV 71 83])))).loop)) ((vU [vP 85 .eql 24 6,MV 84 85] (C.cond (.t 84) C.skip (vU [vP 86 .eql 24 5,MV 84 86] (C.cond
 (.t 84) C.skip (vY [vP 87 .eql 24 4,MV 84 87]))))).seq (C.cond (.t 84) (vU [LD 88 2,O1 89 (.load (some 7)) 1,O2 90 .callv 88 89,O1 91 (.un UnOp.not) 90] (vV 91 (vX [MC 5 (.bool
 false)]))) (vU [O1 25 (.load (some 7)) 1,⟨some 9,none,.alloc 1 348 [i6 0,.int .u8 0,i6 0,.str [],i6 0,.bool false,.str []],[]⟩,ST 7 9 25] (vU [vN 26 5 1,LD 27 26,MV 28 27,v7 29
 28 0 7,v8 30 28 29,vT 31 28 (.bin .eql) 30 (i6 7),PT 32 28 31,vN 33 5 1,ST 1 33 32] ((vU [vN 34 0 7,LD 35 34,vP 36 .eql 35 11] (vV 36 (vY [vN 37 1 7,LD 38 37,vN 39 6 1,ST 1 39
 38]))).seq (vU [LD 40 3,vN 41 3 7,LD 42 41,O2 43 .callv 40 42,MV 10 43] ((C.draw (DT.one ⟨some 44,none,.fldA 5,[.t 9]⟩ (DT.one ⟨some 45,none,.load none,[.t 44]⟩ (DT.one ⟨some
 48,none,.fldA 5,[.t 1]⟩ ((DT.one ⟨some 46,none,.fldA 6,[.t 9]⟩ ((DT.one ⟨some 47,none,.load none,[.t 46]⟩ (DT.one ⟨none,none,.store 1,[.t 48,.t 45]⟩ vf)).two (DT.one
 ⟨none,none,.store 1,[.t 48,.t 45]⟩ (DT.one ⟨some 47,none,.load none,[.t 46]⟩ vf)))).two (DT.one ⟨none,none,.store 1,[.t 48,.t 45]⟩ (DT.one ⟨some 46,none,.fldA 6,[.t 9]⟩ (DT.one
 ⟨some 47,none,.load none,[.t 46]⟩ vf)))))))).seq (vU [MV 50 10,O1 51 (.un UnOp.not) 50] (vV 51 (vX [MC 5 (.bool false)]))))))))))))))))))))).seq (vY [vP 92 .add 13 1,MV 13
 92])))).loop)).seq (vX [MC 5 (.bool true)])))
theorem qyx:qI Tryz.prog 343 93 2 [RV.tmp 5] qwF:=fi Tryz.f343 [7,9] zy []
def qwG:C:=
 (vU [MC 2 .nilp] (vX [MV 3 0,O1 4 .nilchk 3,vN 5 0 4,LD 6 5,MV 7 0,O1 8 .nilchk 7,vN 9 0 8,LD 10 9,O1 11 .len 10,vP 12 .sub 11 1,O2 13 (.idxA 6) 6 12,MV 2 13]))
theorem qyy:qI Tryz.prog 346 14 0 [RV.tmp 2] qwG:=fi Tryz.f346 [] zy []
def qsk:C:=
 (vU [O1 1 (.box 0 119) 0,MC 2 (.bool false)] (vX [vN 3 0 1,LD 4 3,O1 5 .slen 4,vP 6 .gtr 5 64,MV 2 6]))
theorem qrk:qI Tryz.prog 289 7 1 [RV.tmp 2] qsk:=fi Tryz.f289 [1] zy []
def qDH:C:=
 (vU [ON 2 (.nilo 0 1 9) []] (vU [ON 3 (.nilo 1 1 9) []] ((vU [MV 6 0,O1 7 .len 6,vO 8 0] (C.block 0 (vU [BI 9 .lss 8 7] ((vW 9 0).seq ((C.block 1 (vU [O2 10 (.idxA 6) 6 8,O1 11
 (.load (some 6)) 10,⟨some 5,none,.alloc 2 119 [.str [],.str [],.str [],i6 0,i6 0,.str []],[]⟩,ST 6 5 11] (vY [MV 12 3,vN 13 0 5,LD 14 13,⟨some 15,none,.bslc 3 1 1 9 [.str []]
 [(0,1)],[.t 14]⟩,O2 16 (.app 4 1 9 16) 12 15,MV 3 16]))).seq (vY [vP 17 .add 8 1,MV 8 17])))).loop)).seq (vX [MV 18 3,MV 2 18]))))
theorem qCp:qI Tryz.prog 64 19 5 [RV.tmp 2] qDH:=fi Tryz.f64 [2,3,5,15,16] zy []
def qwc:C:=
 (vU [O1 4 (.box 0 117) 0,ON 8 (.nilo 1 7 359) [],⟨some 9,none,.alloc 2 117 [.str [],i6 0],[]⟩,MC 10 (.bool false)] (vU [ON 11 (.nilo 3 7 359) []] (vU [MC 12 (.bool false)] ((vU
 [vO 13 0] (C.block 0 ((v6 20 13 1 0).seq ((C.block 1 (vU [MV 26 1,MV 27 13,O2 28 (.idxA 4) 26 27,O1 29 (.load (some 4)) 28,⟨some 14,none,.alloc 4 234 [i6 0,.str [],i6
 0,.nl],[]⟩,ST 4 14 29] (vU [vN 30 0 14,LD 31 30] (C.block 2 (vU [vP 72 .eql 31 1,MV 71 72] (C.cond (.t 71) (vU [vO 15 0] (C.block 3 ((vU [MV 73 15,vN 74 1 14,LD 75 74,O1 76
 .slen 75,BI 77 .lss 73 76] (vW 77 3)).seq ((C.block 4 (vY [MV 80 11,vN 81 1 14,LD 82 81,MV 83 15,O2 84 .sidx 82 83,MV 85 2,MV 86 3,O1 87 (.load (some 2)) 4,⟨some 88,none,.build
 [.int .u8 0,i6 0,.bool false,.bool false,.str [],.str [],i6 0] [(0,1),(3,1),(4,1),(5,2)],[.t 84,.t 85,.t 86,.t 87]⟩,⟨some 89,none,.bslc 5 7 1 359 [.int .u8 0,i6 0,.bool
 false,.bool false,.str [],.str [],i6 0] [(0,7)],[.t 88]⟩,O2 90 (.app 6 7 359 64) 80 89,MV 11 90])).seq (vZ 78 15))).loop)) (vU [vP 92 .eql 31 6,MV 91 92] (C.cond (.t 91) (vY
 [MV 93 11,vN 94 2 14,LD 95 94,MV 96 2,MV 97 3,O1 98 (.load (some 2)) 4,⟨some 99,none,.build [.int .u8 0,i6 0,.bool false,.bool false,.str [],.str [],i6 0]
 [(1,1),(3,1),(4,1),(5,2)],[.t 95,.t 96,.t 97,.t 98]⟩,⟨some 100,none,.bslc 7 7 1 359 [.int .u8 0,i6 0,.bool false,.bool false,.str [],.str [],i6 0] [(0,7)],[.t 99]⟩,O2 101 (.app
 8 7 359 64) 93 100,MV 11 101]) (vU [vP 103 .eql 31 2,MV 102 103] (C.cond (.t 102) (vY [vN 104 1 4,LD 105 104,vP 106 .add 105 1,vN 107 1 4,ST 1 107 106]) (vU [vP 109 .eql 31
 3,MV 108 109] (C.cond (.t 108) (vY [vN 110 1 14,LD 111 110,⟨some 112,none,.build [.str [],i6 0] [(0,1)],[.t 111]⟩,ST 2 4 112]) ((vU [vP 114 .eql 31 5,MV 113 114] (C.cond (.t
 113) C.skip (vY [vP 115 .eql 31 4,MV 113 115]))).seq (C.cond (.t 113) (vY [MV 116 11,vN 117 0 14,LD 118 117,vP 119 .eql 118 5,⟨some 120,none,.build [.int .u8 0,i6 0,.bool
 false,.bool false,.str [],.str [],i6 0] [(2,1)],[.t 119]⟩,⟨some 121,none,.bslc 9 7 1 359 [.int .u8 0,i6 0,.bool false,.bool false,.str [],.str [],i6 0] [(0,7)],[.t 120]⟩,O2 122
 (.app 10 7 359 64) 116 121,MV 11 122]) (vU [MV 32 3,MV 16 32] ((vU [vN 33 0 14,LD 34 33,vP 35 .eql 34 11] (vV 35 (vY [vN 36 1 14,LD 37 36,MV 16 37]))).seq (vU [O1 39 (.load
 (some 2)) 4,vN 40 3 14,LD 41 40,MV 42 2,MV 43 42,v7 44 43 0 14,v8 45 43 44,vT 46 43 (.bin .eql) 45 (i6 7),PT 47 43 46,MV 48 16,ON 49 (.call 234 true) [.t 39,.t 41,.t 47,.t
 48],MV 38 49,O1 50 (.ext 0) 38,O1 51 (.ext 1) 38,O1 52 (.ext 2) 38,⟨some 18,none,.alloc 11 117 [.str [],i6 0],[]⟩,MV 17 50,ST 2 18 51,MV 19 52] ((C.draw (DT.one ⟨some
 53,none,.mv,[.t 11]⟩ (DT.one ⟨some 54,none,.mv,[.t 17]⟩ ((DT.one ⟨some 55,none,.app 12 7 359 64,[.t 53,.t 54]⟩ (DT.one ⟨some 56,none,.load (some 2),[.t 18]⟩ (DT.one ⟨some
 11,none,.mv,[.t 55]⟩ (DT.one ⟨none,none,.store 2,[.t 4,.t 56]⟩ DT.nil)))).two (DT.one ⟨some 56,none,.load (some 2),[.t 18]⟩ (DT.one ⟨some 55,none,.app 12 7 359 64,[.t 53,.t
 54]⟩ (DT.one ⟨some 11,none,.mv,[.t 55]⟩ (DT.one ⟨none,none,.store 2,[.t 4,.t 56]⟩ DT.nil)))))))).seq (vY [MV 57 12,MV 58 57,vS 59 58 19,PT 60 58 59,MV 61 60,v7 62 61 0 14,v8 63
 61 62,vT 64 61 (.bin .eql) 63 (i6 8),PT 65 61 64,MV 66 65,v7 67 66 0 14,v8 68 66 67,vT 69 66 (.bin .eql) 68 (i6 9),PT 70 66 69,MV 12 70]))))))))))))))))))).seq (vZ 24
 13))).loop)).seq (vX [MV 123 11,O1 124 (.load (some 2)) 4,MV 125 12,MV 8 123,ST 2 9 124,MV 10 125])))))
theorem qx0:qI Tryz.prog 234 126 13 [RV.tmp 8,RV.cell 9 (some 2),RV.tmp 10] qwc:=fi Tryz.f234 [4,8,9,11,14,89,90,100,101,121,122,18,55] zy []
def qsh:C:=
 (vU [vO 2 0] ((vU [MV 4 0,O1 5 .len 4,vP 6 .gtr 5 1024] (vV 6 (vX [vO 2 4]))).seq ((vU [vO 3 0] (C.block 0 ((v6 7 3 0 0).seq ((C.block 1 (vU [MV 13 0,MV 14 3,O2 15 (.idxA 6) 13
 14,vN 16 0 15,LD 17 16,O1 18 .slen 17,vP 19 .gtr 18 64] (vV 19 (vX [vO 2 4])))).seq (vZ 11 3))).loop)).seq (vX [vO 2 0]))))
theorem qrg:qI Tryz.prog 236 20 0 [RV.tmp 2] qsh:=fi Tryz.f236 [] zy []
def qwg:C:=
 (vU [ON 2 (.nilo 0 1 9) []] (vU [ON 3 (.nilo 1 1 9) []] ((vU [vO 4 0] (C.block 0 ((v6 5 4 0 0).seq ((C.block 1 (vY [MV 11 3,MV 12 0,MV 13 4,O2 14 (.idxA 6) 12 13,vN 15 0 14,LD
 16 15,⟨some 17,none,.bslc 2 1 1 9 [.str []] [(0,1)],[.t 16]⟩,O2 18 (.app 3 1 9 16) 11 17,MV 3 18])).seq (vZ 9 4))).loop)).seq (vX [MV 19 3,MV 2 19]))))
theorem qx5:qI Tryz.prog 241 20 4 [RV.tmp 2] qwg:=fi Tryz.f241 [2,3,17,18] zy []
def qnZ:C:=
 (vU [MC 2 (.bool false)] (vU [MV 4 0,O1 5 (.call 163 true) 4,MV 3 5] (vX [MV 6 3,vP 7 .eql 6 1,MV 8 7,vS 9 8 3,vT 10 8 (.bin .eql) 9 (i6 3),PT 11 8 10,MV 2 11])))
theorem qkP:qI Tryz.prog 299 12 0 [RV.tmp 2] qnZ:=fi Tryz.f299 [] zy []
end
section
open Go Go.Proofs AF HY LN
namespace RC
abbrev frmN:Nat:=4
def frmC:wj:= [.str [],.bool false,.bool false,.bool false,.str [],.bool true,.bool false,.bool false,.str [108,98],.bool false,.bool false,.bool false,.str [112,98],.bool true,.bool false,.bool false,
 .str [115,101,99],.bool true,.bool false,.bool false,.str [118],.bool false,.bool false,.bool false,.str [103,97,112],.bool false,.bool true,.bool false,.str [117,110,99,108,101,97,114],.bool false,.bool false,.bool true,
 .str [97,100,100],.bool false,.bool true,.bool true,.str [100,101,108],.bool false,.bool true,.bool true,.str [97,98],.bool true,.bool false,.bool true,.str [110,97,109,101],.bool true,.bool false,.bool true]
def qyY:wj:= [.str [],.bool true,.bool false,.bool false]
theorem qrr:(frmC.drop ((1:Int).toNat*4)).take 4=qyY:=rfl
def PF(h:wh):Prop:=kt SG h∧zT h frmN frmC
theorem PF.app{h:wh}(hp:PF h)(l:wh):PF (h++l):=⟨hp.1.app l,hp.2.app⟩
def ndC(s:Str):wj:= [.int .i64 1,.str s,.int .i64 0,.nl]
def jQ(s:Str):AV:= .sl 1 λ_=>ndC s
def plC(s:Str):wj:= [.int .i64 1,.str s,.int .i64 0,.nl,.int .i64 0,.bool false]
theorem qFd(s:Str)(h:wh)(hs:s≠ [])(hl:s.length<=1000000)(hc:zN s=0)(hg:zT h frmN frmC):ACalls Tryz.prog 339 [.agg (plC s)] h (.int .i64 0) h:=by
 have c1:=λh=>qC3 s h om
 rw[hc]at c1;have k1:(s= [])=False:=eqf hs;refine acO qyt ?_;simp (disch:=omega) only[qwC,plC,go_sem]
 repeat' first|(apply qb;exact rvk;simp only[go_sem];apply qg)|(with_reducible first|intro _|apply aiA)|exact clz|fail
 refine qru (cs:=frmC) hg.app ⟨by decide,by decide⟩ rfl ?_;rw[qrr];simp (disch:=omega) only[qyY,k1,go_sem]
 repeat' first|(refine qj ( .bool false) ?_;simp (disch:=omega) only[go_sem])|(refine cG (λe=>c1 _) flk ?_;simp (disch:=omega) only[go_sem])|(apply qb;exact rvk;simp only[go_sem];first|exact qi|apply qg)|(with_reducible first|intro _|apply aiA)|exact clz|fail
end RC
end
section
open Go Go.Proofs AF HY LN
namespace AF
mutual
theorem kD{n m:Nat}(h:n<=m): ∀c,qT n c=true->qT m c=true
 | .osl k v z o l,hc=>by simp only[qT,decide_eq_true_eq]at*;omega
 | .op k v o,hc=>by simp only[qT,decide_eq_true_eq]at*;omega
 | .mp k v,hc=>by simp only[qT,decide_eq_true_eq]at*;omega
 | .yld k,hc=>by simp only[qT,decide_eq_true_eq]at*;omega
 | .agg cs,hc=>by simp only[qT]at*;exact dr h cs hc
 | .tup cs,hc=>by simp only[qT]at*;exact dr h cs hc
 | .fn f a b,hc=>by simp only[qT,Bool.and_eq_true]at*;exact⟨dr h a hc.1,dr h b hc.2⟩
 | .gd g v,hc=>by
  cases g with
  |false=>rfl
  |true=>simp only[qT,Bool.not_true,Bool.false_or]at*;exact kD h v hc
 | .undef,_=>rfl
 | .bool _,_=>rfl
 | .int _ _,_=>rfl
 | .str _,_=>rfl
 | .sl _ _,_=>rfl
 | .ip _,_=>rfl
 | .nilp,_=>rfl
 | .nl,_=>rfl
 | .el,_=>rfl
 | .nilfn,_=>rfl
 | .ifc,_=>rfl
 | .nilif,_=>rfl
 | .anyb,_=>rfl
theorem dr{n m:Nat}(h:n<=m): ∀cs,qT.lowVs n cs=true->qT.lowVs m cs=true
 | [],_=>rfl
 |c::r,hc=>by simp only[qT.lowVs,Bool.and_eq_true]at*;exact⟨kD h c hc.1,dr h r hc.2⟩
end
theorem lowO_mono{n m:Nat}(h:n<=m){o:AObj}(ho:lowO n o):lowO m o:=by
 cases o with
 |mem v ty cs=>exact λc hc=>kD h c (ho c hc)
 |emp v=>trivial
 |lp s ts L=>exact λc hc=>kD h c (ho c hc)
 |map v es=>exact λp hp=>kD h p.2 (ho p hp)
 |pin bs G=>trivial
theorem LowI.retX{h hh xs:wh}{ts:wj}{L:LInfo}(s:LS)(hl:LowI h hh)(hts: ∀c∈ts,qT (h.length+1) c=true):
  (hh++ .lp s ts L::xs).length=(h++ .lp .ready ts L::xs).length∧ ∀o∈hh++ .lp s ts L::xs,o∈h++ .lp .ready ts L::xs∨lowO (h++ .lp .ready ts L::xs).length o:=by
 refine⟨by simp[hl.1],λo ho=> ?_⟩;rcases List.mem_append.1 ho with ho|ho
 ·rcases hl.2 o ho with h1|⟨h1,_⟩
  ·exact .inl (List.mem_append_left _ h1)
  ·exact .inr (lowO_mono (by simp) h1)
 ·rcases List.mem_cons.1 ho with rfl|ho
  ·exact .inr (λc hc=>kD (by simp) c (hts c hc))
  ·exact .inl (List.mem_append_right _ (List.mem_cons_of_mem _ ho))
end AF
namespace RC
theorem qFD(d:Int)(a b:AV)(h:wh):ACalls Tryz.prog 373 [.nl,.int .i64 d,a,b] h (.bool true) h:=by
 refine acO qrq ?_;simp (disch:=omega) only[qsq,go_sem];refine qn (T:=λ_:Unit=>qO 40 [(1,.int .i64 d),(2,a),(3,b),(7,.bool false),(10,.nl),(11,.int .i64 0),(12,.int .i64 0)]) (H:=λ_=>h++ [.emp 0]) (inv:=λ_=>True) (m:=λ_=>0) () trivial (Wk.temps ?_) ?_
 ·(simp only[go_sem,qf,qc,qa,qe];try exact we)
 rintro⟨⟩ _ K hK;simp (disch:=omega) only[go_sem]
 repeat' first|exact wa|(with_reducible first|intro _|apply aiA)|exact clz|fail
def cyl(n:Nat):AObj:= .mem 1 411 [.yld n]
def cwk(n:Nat):AObj:= .mem 1 412 [.fn (.func 373) [] [.op (n+1) 1 0,.op (n+2) 1 0]]
section
variable {n : Nat} {hh m : wh} {st : LS} {ts : wj} {LI : LInfo}
theorem qzA(hl:hh.length=n):cellsOf (hh++ .lp st ts LI::cyl n::cwk n::m) (n+1) 1=some [.yld n]:=qR (show qt _ _=some (cyl n) by subst hl;unfold qt;simp)
theorem qzB(hl:hh.length=n):cellsOf (hh++ .lp st ts LI::cyl n::cwk n::m) (n+2) 1=some [.fn (.func 373) [] [.op (n+1) 1 0,.op (n+2) 1 0]]:=qR (show qt _ _=some (cwk n) by subst hl;unfold qt;simp)
end
theorem wlk1(s:Str)(h:wh)(ts:wj)(LI:LInfo)(S:Nat->wh->Prop)(E:LS->wh->Prop)(hS: ∀i hh,S i hh->LowI h hh)(hE: ∀s hh,E s hh->LowI h hh)
  (body: ∀i hh tl,(hi:i< [[AV.agg (plC s)]].length)->S i hh->km Tryz.prog h.length ([[AV.agg (plC s)]][i]) (hh++ .lp .ready ts LI::tl) (λr h'=> ∃hh',(r= .bool true∧S (i+1) hh'∧h'=hh'++ .lp .ready ts LI::tl)∨(∃s,r= .bool false∧E s hh'∧h'=hh'++ .lp s ts LI::tl)))
  (start:S 0 h) (hts: ∀c∈ts,qT (h.length+1) c=true):
  jc Tryz.prog 373 [jQ s,.int .i64 0,.op (h.length+1) 1 0,.op (h.length+2) 1 0] (h++ [.lp .ready ts LI,cyl h.length,cwk h.length])
   (λr h'=> ∃hh',(r= .bool true∧S 1 hh'∧h'=hh'++ [.lp .ready ts LI,cyl h.length,cwk h.length])∨(∃st,r= .bool false∧E st hh'∧h'=hh'++ [.lp st ts LI,cyl h.length,cwk h.length])):=by
 refine acQ qrq ?_;simp (disch:=omega) only[qsq,jQ,ndC,go_sem];refine qn (T:=λi:Nat×wh×AObj=>qO 40 [(1,.int .i64 0),(2,.op (h.length+1) 1 0),(3,.op (h.length+2) 1 0),(7,.bool (decide (i.1=1))),(10,jQ s),(11,.int .i64 ((1:Nat):Int)),(12,.int .i64 i.1)])
  (H:=λi=>i.2.1++ [.lp .ready ts LI,cyl h.length,cwk h.length]++ [i.2.2])
  (inv:=λi=>i.1<=1∧S i.1 i.2.1∧qy [i.2.2] 0=true) (m:=λi=>1-i.1) (0,h,.emp 0) ⟨nzl _,start,rfl⟩ (Wk.temps ?_) ?_
 ·(simp only[jQ,ndC,go_sem,qf,qc,qa,qe];try exact we)
 rintro⟨i,hh,O⟩ ⟨i1,i2,i3⟩ K hK;simp only at i1 i2 i3 hK;obtain⟨hlen,hlow⟩:=hS _ _ i2;have hb:(h++ [AObj.lp LS.ready ts LI,cyl h.length,cwk h.length]).length=(hh++ [AObj.lp LS.ready ts LI,cyl h.length,cwk h.length]).length:=by simp[hlen]
 rw[hb];have i3': ∀m,qy (O::m) 0=true:=λ_=>i3
 have ea: ∀(g:wh) m,g++ [AObj.lp LS.ready ts LI,cyl h.length,cwk h.length]++m=g++ .lp .ready ts LI::cyl h.length::cwk h.length::m:=λg m=>by simp
 have d1: ∀m,cellsOf (hh++ [AObj.lp LS.ready ts LI,cyl h.length,cwk h.length]++m) (h.length+1) 1=some [.yld h.length]:=λm=>by rw[ea];exact qzA hlen
 have d2: ∀m,cellsOf (hh++ [AObj.lp LS.ready ts LI,cyl h.length,cwk h.length]++m) (h.length+2) 1=some [.fn (.func 373) [] [.op (h.length+1) 1 0,.op (h.length+2) 1 0]]:=λm=>by rw[ea];exact qzB hlen
 by_cases hi:i<1
 ·obtain rfl:i=0:=by omega
  have hb':=λO'=>body 0 hh [cyl h.length,cwk h.length,O'] (by simp) i2
  simp (disch:=omega) only[jQ,ndC,i3',d1,go_sem]
  repeat' first|(with_reducible first|intro _|apply aiA)|exact clz|fail
  ·exact⟨.ready,ts,LI,by rw[ea];exact kR hlen⟩
  ·rw[ea];refine km.mono ?_ (hb' _);rintro v h' ⟨hh',⟨rfl,hn,rfl⟩|⟨st,rfl,hs',rfl⟩⟩
   ·have hl':=(hS _ _ hn).1;have hq:(hh++ [AObj.lp LS.ready ts LI,cyl h.length,cwk h.length]).length=(hh'++ [AObj.lp LS.ready ts LI,cyl h.length,cwk h.length]).length:=by simp[hlen,hl']
    rw[<-ea,hq];have e1: ∀m,cellsOf (hh'++ [AObj.lp LS.ready ts LI,cyl h.length,cwk h.length]++m) (h.length+1) 1=some [.yld h.length]:=λm=>by rw[ea];exact qzA hl'
    have e2: ∀m,cellsOf (hh'++ [AObj.lp LS.ready ts LI,cyl h.length,cwk h.length]++m) (h.length+2) 1=some [.fn (.func 373) [] [.op (h.length+1) 1 0,.op (h.length+2) 1 0]]:=λm=>by rw[ea];exact qzB hl'
    simp (disch:=omega) only[e2,go_sem]
    repeat' first|(refine qG (qFD _ _ _ _) ?_;simp (disch:=omega) only[go_sem])|(with_reducible first|intro _|apply aiA)|exact clz|fail
    refine hK _ _ (1,hh',.mem (qo (some O)+1) 234 (ndC s)) ⟨nlr _,hn,rfl⟩ (by simp only;omega) (Wk.temps ?_)
    (simp only[jQ,ndC,go_sem,qf,qc,qa,qe];try exact we)
   ·simp (disch:=omega) only[go_sem]
    repeat' first|(with_reducible first|intro _|apply aiA)|exact clz|fail
    obtain⟨r1,r2⟩:=(hE _ _ hs').retX (L:=LI) (xs:= [cyl h.length,cwk h.length]) st hts;have eO: ∀O',hh'++ .lp st ts LI::cyl h.length::cwk h.length:: [O']=(hh'++ [.lp st ts LI,cyl h.length,cwk h.length])++ [O']:=λ_=>by simp
    rw[eO];exact gL ⟨trivial,trivial⟩ r1 r2 ⟨hh',.inr ⟨st,rfl,hs',rfl⟩⟩ (qi)
 ·obtain rfl:i=1:=by omega
  simp (disch:=omega) only[jQ,ndC,go_sem]
  repeat' first|(with_reducible first|intro _|apply aiA)|exact clz|fail
  obtain⟨r1,r2⟩:=(hS _ _ i2).retX (L:=LI) (xs:= [cyl h.length,cwk h.length]) .ready hts;exact gL ⟨trivial,trivial⟩ r1 r2 ⟨hh,.inl ⟨rfl,i2,rfl⟩⟩ (qi)
end RC
end
section
namespace Go.Proofs
open Go.Shelf Go.RowKit
set_option maxHeartbeats 1000000 in
set_option maxRecDepth 100000 in
theorem qj0(b d:Nat)(w:World)(h0:w.cell? ⟨b,d,none⟩=some (.pointer (some ⟨b,d,none⟩))):
  Calls Tryz.prog 333 #[.pointer (some ⟨b,d,none⟩)] w λe w'=>e= .returned (.tuple #[])∧w'=w:=by
 obtain⟨j,hj,_⟩:=Option.map_eq_some_iff.1 (show (Tryz.prog.info? 333).map (·.size)=some 2 by kernel_rfl)
 go_enter Tryz.func333,Tryz.ntmps333
 go_wp2
 rw[Lib.run_neq_ptr_same w _ Tryz.underlying331 hj]
 go_wp2
 go_end0
 exact⟨rfl,rfl⟩
set_option maxHeartbeats 1000000 in
set_option maxRecDepth 100000 in
theorem qgm(b d ty n:Nat)(w:World)(h0:w.cell? ⟨b,d,none⟩=some (.pointer none))(hn:d+2<=n)(hsh:w.shape? b=some (ty,n))(hfz:w.frozen? ⟨b,d,none⟩=false)
  (hl:liesAt Tryz.prog Tryz.prog.depth ty (n/Tryz.prog.cellsOf ty) d 333 1=true):
  Calls Tryz.prog 333 #[.pointer (some ⟨b,d,none⟩)] w λe w'=>e= .returned (.tuple #[])∧w'=w.setCell ⟨b,d,none⟩ (.pointer (some ⟨b,d,none⟩)):=by
 obtain⟨j,hj,hjs⟩:=Option.map_eq_some_iff.1 (show (Tryz.prog.info? 333).map (·.size)=some 2 by kernel_rfl)
 go_enter Tryz.func333,Tryz.ntmps333
 go_wp2
 rw[Lib.run_to_unsafe w ⟨b,d,none⟩ Tryz.underlying331 Tryz.underlying408 hj (by rw[hjs];decide) hsh (show d<n by omega)];simp only[Result.andThen];rw[Oper.upon_value]
 go_wp2
 rw[run_callFunc_extern Tryz.func370 (by kernel_rfl) (by kernel_rfl) (by kernel_rfl) (e:=Extern.AbiNoEscape.same) (by kernel_rfl)];rw[Lib.run_noEscape];simp only[Result.andThen];rw[Oper.upon_value]
 go_wp2
 rw[Lib.run_from_unsafe w ⟨b,d,none⟩ Tryz.underlying408 Tryz.underlying331 hj hsh hl];simp only[Result.andThen];rw[Oper.upon_value]
 go_wp2
 go_end0
 exact⟨rfl,rfl⟩
set_option maxHeartbeats 1000000 in
set_option maxRecDepth 100000 in
theorem qg4(b d g cap:Nat)(l:List UInt8)(cur:Array Value)(w:World)(h0:l≠ [])(c0:w.cell? ⟨b,d+1,none⟩=some (.slice (some ⟨g,0,none⟩) l.length cap))(hg:w.heap[g]? =some (.cells cur 5 (0,0)))
  (hnc:l.length<=cap) (hcm:cap<=maxLen) (hcs:cap<=cur.size) (hcell: ∀(j:Nat) x,l[j]? =some x->w.cell? ⟨g,j,none⟩=some (.int .u8 x.toNat)):
  Calls Tryz.prog 278 #[.pointer (some ⟨b,d,none⟩)] w λe w'=>e= .returned (.string ⟨l.toArray⟩)∧w'=w.drew.freeze ⟨g,0,none⟩ l.length:=by
 have hl0:l.length≠0:=by simpa using h0
 have c1:w.drew.cell? ⟨b,d+1,none⟩=some (.slice (some ⟨g,0,none⟩) l.length cap):=c0;have hSD:(Builtin.unsafeSliceData_ #[289] 379 #[.slice (some ⟨g,0,none⟩) l.length cap]).run Tryz.prog w.drew= .ok (.pointer (some ⟨g,0,none⟩)) w.drew:=
  Lib.run_unsafeSliceData_row _ _ _ _ _ _ om
 have hUS:(Builtin.unsafeString_ #[379,3] 9 #[.pointer (some ⟨g,0,none⟩),.int .i64 l.length]).run Tryz.prog w.drew= .ok (.string ⟨l.toArray⟩) (w.drew.freeze ⟨g,0,none⟩ l.length):=by
  refine Lib.run_unsafeString_row w.drew 379 3 9 5 Tryz.underlying379 (by kernel_rfl) g cur.size (by have hg':w.drew.heap[g]? =some (.cells cur 5 (0,0)):=hg;simp[World.shape?,hg']) l h0 om (by unfold maxLen at hcm;omega) ?_;intro j x hx
  have:=hcell j x hx
  cases j with
  |zero=>exact this
  |succ j=>
   have e:(⟨g,0,none⟩:Addr).add (j+1)=⟨g,j+1,none⟩:=by
    unfold Addr.add;rw[ine (Nat.succ_ne_zero j)];simp only[Nat.zero_add]
   rw[e];exact this
 have mixed:Tryz.prog.follows .mixedOrders=true:=by kernel_rfl
 go_enter Tryz.func278,Tryz.ntmps278
 go_wp2
 go_region_o
 all_goals (go_wp2;go_ret;exact⟨rfl,rfl⟩)
set_option maxHeartbeats 2000000 in
set_option maxRecDepth 100000 in
theorem qg3(b d:Nat)(w:World)(c0:w.cell? ⟨b,d+1,none⟩=some (.slice none 0 0)):
  Calls Tryz.prog 278 #[.pointer (some ⟨b,d,none⟩)] w λe w'=>e= .returned (.string ⟨#[]⟩)∧w'=w.drew:=by
 have hUS: ∀(W:World) (q:Option Addr),(Builtin.unsafeString_ #[379,3] 9 #[.pointer q,.int .i64 0]).run Tryz.prog W= .ok (.string .empty) W:=λW q=>Lib.run_unsafeString_none W _ _ _ q
 have c1:w.drew.cell? ⟨b,d+1,none⟩=some (.slice none 0 0):=c0;have hSD:(Builtin.unsafeSliceData_ #[289] 379 #[.slice none 0 0]).run Tryz.prog w.drew= .ok (.pointer none) w.drew:=rfl;have mixed:Tryz.prog.follows .mixedOrders=true:=by kernel_rfl
 go_enter Tryz.func278,Tryz.ntmps278
 go_wp2
 go_region_o
 all_goals (go_wp2;go_ret;exact⟨rfl,rfl⟩)
end Go.Proofs
end
section
open Go Go.Proofs AF
def qk2:List Nat:= [333,277,377,278,347]
def qwn:C:=
 (vU [vO 4 0,MC 5 .nilif] (vU [MV 6 0,O1 7 (.call 333 false) 6] (vU [MV 8 0,MV 9 0,O1 10 .nilchk 9,vN 11 1 10,LD 12 11,MV 13 1,O2 14 (.apps 0 5) 12 13,O1 15 .nilchk 8,vN 16 1
 15,ST 1 16 14] (vX [MV 17 1,O1 18 .slen 17,MV 4 18,MC 5 .nilif]))))
theorem qyc:qI Tryz.prog 277 19 1 [RV.tmp 4,RV.tmp 5] qwn:=fi Tryz.f277 [14] qk2 []
def qwM:C:=
 (vU [MC 4 .nilif] (vU [MV 5 0,O1 6 (.call 333 false) 5] (vU [MV 7 0,MV 8 0,O1 9 .nilchk 8,vN 10 1 9,LD 11 10,MV 12 1,⟨some 13,none,.bslc 0 1 1 5 [.int .u8 0] [(0,1)],[.t 12]⟩,O2
 14 (.app 1 1 5 1) 11 13,O1 15 .nilchk 7,vN 16 1 15,ST 1 16 14] (vX [MC 4 .nilif]))))
theorem qyE:qI Tryz.prog 377 17 2 [RV.tmp 4] qwM:=fi Tryz.f377 [13,14] qk2 []
end
section
open Go Go.Proofs AF HY RC LN
namespace HY
def qct(v:Nat)(s:List UInt8):AObj:=if s= [] then .emp v else .mem v 5 (zM s)
theorem qbL(v:Nat):qct v []= .emp v:=rfl
theorem qag{s:List UInt8}(h:s≠ [])(v:Nat):qct v s= .mem v 5 (zM s):=ine h
theorem qcK(s u:List UInt8):zM (s++u)=zM s++zM u:=by simp[zM]
theorem qhm(s:List UInt8)(n:Nat): ∀c∈zM s,qT n c=true:=by
 intro c hc;unfold zM at hc;rw[List.mem_map]at hc;obtain⟨a,_,rfl⟩:=hc;rfl
theorem je(v:Nat)(s:List UInt8)(n:Nat):lowO n (qct v s):=by
 unfold qct;split
 ·trivial
 ·exact qhm s n
theorem qdh{kb kj:Nat}{h:wh}{X Y Z:AObj}(hne:kb≠kj):qr kb (qr kj (qr kb h X) Y) Z=qr kj (qr kb h Z) Y:=by
 rw[kJ hne,f0]
theorem qr7(v:Nat)(u:List UInt8):(if u.length=0 then AObj.emp v else AObj.mem v 5 (zM u))=qct v u:=by
 unfold qct
 by_cases h:u= []
 ·simp[h]
 ·rw[ine h,ine (by simpa using h)]
theorem qbq(w:World)(g n:Nat):w.grownBy (w.drew.freeze ⟨g,0,none⟩ n) (some g):=by
 unfold World.freeze;split
 ·exact⟨rfl,rfl,rfl,nlr _,λ_ _ _=>rfl⟩
 ·refine⟨rfl,rfl,rfl,?_,λk hk hne=> ?_⟩
  ·show w.heap.size<=(w.heap.modify g _).size;rw[Array.size_modify];exact nlr _
  ·have:g≠k:=λe=>hne (by rw[e])
   show (w.heap.modify g _)[k]? =w.heap[k]?;rw[Array.getElem?_modify,ine this]
theorem qh5{p:Program}{fits:TypeId->Bool}{e:TypeId}{c c' off n:Nat}(hc:c<=c'): ∀d,rowAt p fits d e c off n=true->rowAt p fits d e c' off n=true:=by
 intro d;cases d with
 |zero=>exact id
 |succ d=>
  unfold rowAt;simp only;split
  ·exact id
  ·intro h;rw[Bool.or_eq_true]at h ⊢;rcases h with h|h
   ·refine .inl ?_;simp only[Bool.and_eq_true,decide_eq_true_iff]at h ⊢;exact⟨⟨h.1.1,om⟩,h.2⟩
   ·refine .inr ?_;rw[Bool.and_eq_true]at h ⊢;exact⟨by simp only[decide_eq_true_iff]at h ⊢;omega,h.2⟩
theorem qch{p:Program}{e u:TypeId}{c c' off n:Nat}(hc:c<=c'): ∀d,liesAt p d e c off u n=true->liesAt p d e c' off u n=true:=by
 intro d
 induction d generalizing u n with
 |zero=>exact id
 |succ d ih=>
  unfold liesAt;intro h;rw[Bool.or_eq_true]at h ⊢;rcases h with h|h
  ·exact .inl (qh5 hc _ h)
  ·refine .inr ?_;split at h
   ·exact ih h
   ·cases h
theorem qCL(n:Nat)(hn:2<=n):liesAt Tryz.prog Tryz.prog.depth 333 (n/Tryz.prog.cellsOf 333) 0 333 1=true:=by
 have e1:Tryz.prog.cellsOf 333=2:=by kernel_rfl
 have h1:liesAt Tryz.prog Tryz.prog.depth 333 1 0 333 1=true:=by kernel_rfl
 rw[e1];exact qch om _ h1
theorem ccS(kb vb:Nat)(A B:AV)(h:wh)(hk:qt kb h=some (.mem vb 333 [A,B]))(hA:A= .nilp∨A= .op kb vb 0):ACalls Tryz.prog 333 [.op kb vb 0] h (.tup []) (qr kb h (.mem vb 333 [.op kb vb 0,B])):=by
 refine⟨qtP Tryz.func333 (by kernel_rfl) (by kernel_rfl),λw σ xs H hv=> ?_⟩;obtain⟨x,rfl,hx⟩:=hv.one;have hc:=qR hk;obtain⟨cs,o,b,arr,g1,rfl,g2,g3,g4,g5,g6,g7,g9,g8⟩:=kE H hx (by rw[hc];rfl);rw[hc]at g1;cases g1;have hobj:=H.obj kb _ o hk g2;obtain⟨_,hty,_⟩:=hobj;rw[hty]at g5;have g5b:=g5;have g5:=g5.plain (by decide);have hsz:2<=arr.size:=g7;have hc0:w.cell? ⟨b,0,none⟩=some arr[0]:=by rw[kf g5b];simp
 have hA0:=g8 0 A arr[0] rfl (by simp);have hsh:w.shape? b=some (333,arr.size):=by simp[World.shape?,g5]
 have hfz:w.frozen? ⟨b,0,none⟩=false:=by simp[World.frozen?,g5]
 have hkl:=zK hk;rcases hA with rfl|rfl
 ·rw[qd0 hA0]at hc0;refine (callsIn_wide.2 (qgm b 0 333 arr.size w hc0 om hsh hfz (qCL _ hsz))).mono ?_;rintro e w' ⟨rfl,rfl⟩;have hg:w.grownBy (w.setCell ⟨b,0,none⟩ (.pointer (some ⟨b,0,none⟩))) o.blk:=by rw[g4];exact grownBy_setCell' w b _
  have hh:=heap_setCell_same w b 0 arr 333 (.pointer (some ⟨b,0,none⟩)) g5;obtain⟨u1,u2⟩:=H.update (o':=o) (a':= .mem vb 333 [.op kb vb 0,B]) g2 hg (nlr _) (λ_=>rfl)
   (by intro b' e;rw[g4]at e;cases e;exact⟨.inl g4,(Array.getElem?_eq_some_iff.1 hh).1⟩) (λb' r e hr=>by rw[g4]at e;cases e;rw[g5]at hr;cases hr)
   (λe=>⟨g3,hty,b,_,g4,by rw[hty];exact .mk hh,by simp[g6],by simp;exact hsz,λi y hi hy=>by
    simp only[Array.getElem?_setIfInBounds]at hy;split at hy
    ·split at hy
     ·cases hy;rfl
     ·cases hy
    ·exact g9 i y (by simpa using hi) hy,λi c y hc hy=>by
    simp only[Array.getElem?_setIfInBounds]at hy;split at hy
    ·rename_i e0;split at hy
     ·cases hy;subst e0;simp at hc;subst hc;have hko:(σ.set kb o)[kb]? =some o:=by rw[List.getElem?_set_self (by rw[H.len];exact hkl)]
      exact .op o hko ⟨_,rfl⟩ om (λ_=>⟨b,g4,rfl⟩)
     ·cases hy
    ·rename_i e0;have hne:i≠0:=λe1=>e0 e1.symm
     have hcs: [.op kb vb 0,B]= [.nilp,B].set 0 (.op kb vb 0):=rfl;rw[hcs,List.getElem?_set_ne (λe1=>hne e1.symm)]at hc
     exact (g8 i c y hc hy).ext e⟩)
  exact⟨_,_,rfl,u1,.imm (.tup rfl (λi c x hc=>by simp at hc)),u2⟩
 ·obtain⟨o',q1,q2,q3⟩:=quO hA0;rw[g2]at q1;cases q1;obtain⟨b',q4,q5⟩:=q3 g3;rw[g4]at q4;cases q4;rw[q5]at hc0;refine (callsIn_wide.2 (qj0 b 0 w hc0)).mono ?_;rintro e w' ⟨rfl,rfl⟩;rw[jN hk];exact⟨_,σ,rfl,H,.imm (.tup rfl (λi c x hc=>by simp at hc)),Ext.refl w' σ⟩
theorem qdg{kb vb kj v m:Nat}{h:wh}{s:List UInt8}(hkl:kb<h.length)(hjl:kj<h.length): ∀o∈qr kj (qr kb h (.mem vb 333 [.op kb vb 0,.osl kj v 1 0 m])) (qct v s),o∈h∨lowO h.length o:=by
 intro o ho;rcases jo ho with h1|rfl
 ·rcases jo h1 with h2|rfl
  ·exact .inl h2
  ·right;intro c hc;simp only[List.mem_cons,List.not_mem_nil,or_false]at hc;rcases hc with rfl|rfl
   ·simpa[qT] using hkl
   ·simpa[qT] using hjl
 ·exact .inr (je v s _)
theorem qFJ(kb vb kj v:Nat)(A:AV)(s u:List UInt8)(h:wh)(hne:kj≠kb)(hk:qt kb h=some (.mem vb 333 [A,.osl kj v 1 0 s.length]))(hA:A= .nilp∨A= .op kb vb 0)(hj:qt kj h=some (qct v s))(hl:s.length+u.length<=140737488355328):
  ACalls Tryz.prog 277 [.op kb vb 0,.str u] h (.tup [.int .i64 u.length,.nilif]) (qr kj (qr kb h (.mem vb 333 [.op kb vb 0,.osl kj (v+1) 1 0 (s.length+u.length)])) (qct (v+1) (s++u))):=by
 have hkl:=zK hk;have hjl:=zK hj;have hne':kb≠kj:=λe=>hne e.symm
 have hk1: ∀l,qt kb (h++l)=some (.mem vb 333 [A,.osl kj v 1 0 s.length]):=λl=>by rw[zH hkl,hk]
 refine acO qyc ?_;simp (disch:=omega) only[qwn,go_sem];refine qz (ccS kb vb A _ _ (hk1 _) hA) ⟨rfl,trivial⟩ ?_
 by_cases hs:s= []
 ·subst hs;rw[qbL]at hj;simp (disch:=omega) only[zI,jt,qN,qdr,qds,qdJ,qdK,zC,jk,ql,qcV,hj,go_sem];refine⟨om,⟨by simp,by simp at hl;omega⟩,?_⟩;rw[qdh hne',qr7];refine gL ⟨trivial,trivial,trivial⟩ (by simp only[qL]) (qdg hkl hjl) ⟨rfl,?_⟩ (qi);simp
 ·rw[qag hs]at hj;simp (disch:=omega) only[zI,jt,qN,qdr,qds,qdJ,qdK,zC,jk,ql,c8,hj,jE,go_sem]
  repeat' first|(with_reducible apply aiA)
  all_goals first
   |omega
   |(simp[jE];done)
   |skip
  rw[qdh hne',ltl (by simp[jE]),<-qcK,<-qag (by simp[hs])];exact gL ⟨trivial,trivial,trivial⟩ (by simp only[qL]) (qdg hkl hjl) ⟨rfl,rfl⟩ (qi)
theorem qFq(kb vb kj v:Nat)(A:AV)(s:List UInt8)(h:wh)(hne:kj≠kb)(hk:qt kb h=some (.mem vb 333 [A,.osl kj v 1 0 s.length]))(hj:qt kj h=some (qct v s)):
  ACalls Tryz.prog 278 [.op kb vb 0] h (.str s) (qr kj h (.emp (v+1))):=by
 refine⟨qtP Tryz.func278 (by kernel_rfl) (by kernel_rfl),λw σ xs H hv=> ?_⟩;obtain⟨x,rfl,hx⟩:=hv.one;have hc:=qR hk;obtain⟨cs,o,b,arr,g1,rfl,g2,g3,g4,g5,g6,g7,g9,g8⟩:=kE H hx (by rw[hc];rfl);rw[hc]at g1;cases g1;have hty:=(H.obj kb _ o hk g2).2.1;rw[hty]at g5;have g5b:=g5;have g5:=g5.plain (by decide);have hsz:2<=arr.size:=g7;have hc1:w.cell? ⟨b,0+1,none⟩=some arr[0+1]:=by rw[kf g5b];simp
 have hB:=g8 (0+1) _ arr[0+1] rfl (by simp);obtain⟨oj,j1,j2,j3⟩:=qno hB;have hobj:=H.obj kj _ oj hj j1;have hkj:=zK hj
 by_cases hs:s= []
 ·subst hs;rw[qbL]at hj hobj;obtain⟨m1,m2⟩:=hobj;rcases j3 m1 with⟨_,_,_,e⟩|⟨b',cap,e,_⟩
  ·rw[e]at hc1;refine (callsIn_wide.2 (qg3 b 0 w hc1)).mono ?_;rintro e w' ⟨rfl,rfl⟩;obtain⟨u1,u2⟩:=H.update (w':=w.drew) (o':= { oj with blk:=none,ver:=v+1 }) (a':= .emp (v+1)) j1 ⟨rfl,rfl,rfl,nlr _,λ_ _ _=>rfl⟩ (by simp only;omega) (by simp only;omega) (by intro b' e;cases e) (λb' r e hr=>⟨r,hr⟩) (λ_=>⟨rfl,rfl⟩);exact⟨_,_,rfl,u1,.imm .str,u2⟩
  ·rw[m2]at e;cases e
 ·rw[qag hs]at hj hobj;obtain⟨m1,m2,bj,arrj,m3,m4,m5,m6,m7,m8⟩:=hobj;rcases j3 m1 with⟨e,_⟩|⟨b',cap,e1,e2,e3,e4,e5⟩
  ·rw[m3]at e;cases e
  ·rw[m3]at e1;cases e1;rw[e2]at hc1;rw[m2]at m4;have m4b:=m4;have m4:=m4.plain (by decide);rw[jE]at m6;refine (callsIn_wide.2 (qg4 b 0 bj cap s arrj w hs hc1 m4 e3 e4 om (λj x hx=> ?_))).mono ?_
   ·have hjl:j<s.length:=(lgs.1 hx).1;rw[kf m4b];have ea:arrj[j]? =some arrj[j]:=by simp
    have:=m8 j (.int .u8 x.toNat) arrj[j] (by simp[zM,hx]) ea
    rw[ea,zP this]
   ·rintro e w' ⟨rfl,rfl⟩;have hg:w.grownBy (w.drew.freeze ⟨bj,0,none⟩ s.length) oj.blk:=by
     rw[m3];exact qbq w bj s.length
    obtain⟨u1,u2⟩:=H.update (o':= { oj with blk:=none,ver:=v+1 }) (a':= .emp (v+1)) j1 hg (by simp only;omega) (by simp only;omega) (by intro b' e;cases e)
     (λb' r e hr=>by rw[m3]at e;cases e;rw[m4]at hr;cases hr) (λ_=>⟨rfl,rfl⟩)
    exact⟨_,_,rfl,u1,.imm .str,u2⟩
end HY
end
section
open Go Go.Proofs AF
def qa3:List Nat:= [277,278,377,347,287,344,288,345,290]
def qwK:C:=
 (vU [MV 7 0,O1 8 .len 7,vO 9 0] (C.block 0 (vU [BI 10 .lss 9 8] ((vW 10 0).seq ((C.block 1 (vU [O2 11 (.idxA 4) 7 9,O1 12 (.load (some 4)) 11,⟨some 5,none,.alloc 0 234 [i6
 0,.str [],i6 0,.nl],[]⟩,ST 4 5 12] (vU [vN 13 0 5,LD 14 13,O1 15 (.gix 4 12 4) 14,O1 16 (.load (some 4)) 15,⟨some 6,none,.alloc 1 414 [.str [],.bool false,.bool false,.bool
 false],[]⟩,ST 4 6 16] (C.block 2 (vU [vN 26 0 5,LD 27 26,vP 28 .eql 27 1,MV 25 28] (C.cond (.t 25) (vY [vN 29 1 5,LD 30 29,O2 31 (.call 277 false) 1 30]) (vU [vN 33 3 6,LD 34
 33,MV 32 34] (C.cond (.t 32) (vU [vN 35 0 6,LD 36 35,ON 37 (.bin .add) [.c (.str [60]),.t 36],O1 38 (.load (some 4)) 5,O1 39 (.call 375 true) 38,BI 40 .add 37 39,BC 41 .add 40
 (.str [62]),O2 42 (.call 277 false) 1 41] (vU [LD 43 2,vN 44 3 5,LD 45 44,O2 46 .callv 43 45] (vY [vN 47 0 6,LD 48 47,ON 49 (.bin .add) [.c (.str [60,47]),.t 48],BC 50 .add 49
 (.str [62]),O2 51 (.call 277 false) 1 50]))) (vY [vN 17 0 6,LD 18 17,ON 19 (.bin .add) [.c (.str [60]),.t 18],O1 20 (.load (some 4)) 5,O1 21 (.call 375 true) 20,BI 22 .add 19
 21,BC 23 .add 22 (.str [47,62]),O2 24 (.call 277 false) 1 23]))))))))).seq (vY [vP 52 .add 9 1,MV 9 52])))).loop))
theorem qyC:qI Tryz.prog 374 53 2 [] qwK:=fi Tryz.f374 [5,6] qa3 []
@[go_sem]def vh:DT:= DT.one ⟨some 22,none,.nilchk,[.t 10]⟩ (DT.one ⟨some 23,none,.fldA 5,[.t 22]⟩ (DT.one ⟨none,none,.store 1,[.t 23,.t 19]⟩ DT.nil))
@[go_sem]def vg:DT:= DT.one ⟨some 17,some (15,false),.load none,[.t 16]⟩ (DT.one ⟨some 18,some (15,false),.bin .eql,[.t 17,.c (i6 5)]⟩ (DT.one ⟨some 19,none,.pick,[.t 15,.c (.bool true),.t 18]⟩ vh))
def qwv:C:=
 (vU [O1 3 (.box 0 348) 1] (vU [vN 5 0 3,LD 6 5] (C.block 0 (vU [vP 25 .eql 6 1,MV 24 25] (C.cond (.t 24) (vY [MV 26 0,O1 27 (.load (some 7)) 3,O2 28 (.call 344 false) 26 27])
 (vU [vP 30 .eql 6 6,MV 29 30] (C.cond (.t 29) (vU [MV 31 0,O1 32 (.call 288 false) 31] (vU [vO 4 2] ((vU [vN 33 5 3,LD 34 33] (vV 34 (vY [MV 35 4,vP 36 .or 35 1,MV 4 36]))).seq
 (vU [MV 37 0,O1 38 (.load (some 7)) 3,MV 39 4,ON 40 (.call 345 false) [.t 37,.t 38,.t 39]] (vY [MV 41 0,O1 42 (.call 346 true) 41,vN 43 2 3,LD 44 43,O1 45 (.call 116 true)
 44,ON 46 (.bin .add) [.c (.str [91]),.t 45],BC 47 .add 46 (.str [93]),O1 48 .nilchk 42,vN 49 0 48,ST 1 49 47]))))) (vU [MV 7 0,O1 8 (.call 288 false) 7] (C.draw (DT.one ⟨some
 9,none,.mv,[.t 0]⟩ (DT.one ⟨some 10,none,.mv,[.t 0]⟩ (DT.one ⟨some 11,none,.mv,[.t 0]⟩ (DT.one ⟨some 12,none,.nilchk,[.t 11]⟩ (DT.one ⟨some 13,none,.fldA 5,[.t 12]⟩ (DT.one
 ⟨some 14,none,.load none,[.t 13]⟩ (DT.one ⟨some 15,none,.mv,[.t 14]⟩ (DT.one ⟨some 20,none,.nilchk,[.t 9]⟩ (DT.one ⟨some 21,none,.fldA 4,[.t 20]⟩ ((DT.one ⟨some 16,some
 (15,false),.fldA 0,[.t 3]⟩ ((DT.one ⟨some 17,some (15,false),.load none,[.t 16]⟩ (DT.one ⟨some 18,some (15,false),.bin .eql,[.t 17,.c (i6 5)]⟩ (DT.one ⟨some 19,none,.pick,[.t
 15,.c (.bool true),.t 18]⟩ (DT.one ⟨none,none,.store 1,[.t 21,.c (.bool false)]⟩ vh)))).two (DT.one ⟨none,none,.store 1,[.t 21,.c (.bool false)]⟩ vg))).two (DT.one
 ⟨none,none,.store 1,[.t 21,.c (.bool false)]⟩ (DT.one ⟨some 16,some (15,false),.fldA 0,[.t 3]⟩ vg)))))))))))))))))))))
theorem qyk:qI Tryz.prog 287 50 1 [] qwv:=fi Tryz.f287 [3] qa3 []
def qsj:C:=
 ((vU [MV 2 0,O1 3 .nilchk 2,vN 4 3 3,LD 5 4] (vV 5 (vY [MV 6 0,O1 7 (.call 346 true) 6,MV 8 0,O1 9 .nilchk 8,vN 10 1 9,O1 11 (.call 278 false) 10,O1 12 .nilchk 7,vN 13 0 12,ST 1
 13 11]))).seq (vU [MV 14 0,O1 15 .nilchk 14,vN 16 3 15,⟨none,none,.store 1,[.t 16,.c (.bool false)]⟩] (vY [MV 17 0,O1 18 .nilchk 17,vN 19 1 18,O1 20 (.call 347 false) 19])))
theorem qrj:qI Tryz.prog 288 21 0 [] qsj:=fi Tryz.f288 [] qa3 []
@[go_sem]def vk:DT:= DT.one ⟨some 38,none,.app 2 6 119 80,[.t 30,.t 37]⟩ (DT.one ⟨some 39,none,.nilchk,[.t 26]⟩ (DT.one ⟨some 40,none,.fldA 0,[.t 39]⟩ (DT.one ⟨none,none,.store 1,[.t 40,.t 38]⟩
 DT.nil)))
@[go_sem]def vm:DT:= DT.one ⟨some 30,none,.load none,[.t 29]⟩ vk
def qn1:C:=
 (vU [O1 4 (.box 0 348) 1] ((vU [MV 6 0,O1 7 .nilchk 6,vN 8 4 7,LD 9 8,MV 10 9,MG 11 10 true 0,P1 12 10 true .nilchk 11,P1 13 10 true (.fldA 0) 12,P1 14 10 true (.load none)
 13,P1 15 10 true .len 14,PC 16 10 true (.bin .gtr) 15 (i6 0),PF 17 10 16] (vV 17 (vY [MV 18 2,vP 19 .or 18 16,MV 2 19]))).seq ((vU [MV 20 0,O1 21 .nilchk 20,vN 22 5 21,LD 23
 22] (vV 23 (vY [MV 24 2,vP 25 .or 24 4,MV 2 25]))).seq ((C.draw (DT.one ⟨some 26,none,.mv,[.t 0]⟩ (DT.one ⟨some 27,none,.mv,[.t 0]⟩ (DT.one ⟨some 31,none,.fldA 3,[.t 4]⟩
 (DT.one ⟨some 32,none,.load (some 2),[.t 31]⟩ (DT.one ⟨some 33,none,.mv,[.t 2]⟩ (DT.one ⟨some 34,none,.fldA 6,[.t 4]⟩ (DT.one ⟨some 35,none,.load none,[.t 34]⟩ (DT.one ⟨some
 36,none,.build [.str [],.str [],.str [],i6 0,i6 0,.str []] [(2,2),(4,1),(5,1)],[.t 32,.t 33,.t 35]⟩ ((DT.one ⟨some 28,none,.nilchk,[.t 27]⟩ ((DT.one ⟨some 29,none,.fldA 0,[.t
 28]⟩ ((DT.one ⟨some 30,none,.load none,[.t 29]⟩ (DT.one ⟨some 37,none,.bslc 1 6 1 119 [.str [],.str [],.str [],i6 0,i6 0,.str []] [(0,6)],[.t 36]⟩ vk)).two (DT.one ⟨some
 37,none,.bslc 1 6 1 119 [.str [],.str [],.str [],i6 0,i6 0,.str []] [(0,6)],[.t 36]⟩ vm))).two (DT.one ⟨some 37,none,.bslc 1 6 1 119 [.str [],.str [],.str [],i6 0,i6 0,.str []]
 [(0,6)],[.t 36]⟩ (DT.one ⟨some 29,none,.fldA 0,[.t 28]⟩ vm)))).two (DT.one ⟨some 37,none,.bslc 1 6 1 119 [.str [],.str [],.str [],i6 0,i6 0,.str []] [(0,6)],[.t 36]⟩ (DT.one
 ⟨some 28,none,.nilchk,[.t 27]⟩ (DT.one ⟨some 29,none,.fldA 0,[.t 28]⟩ vm))))))))))))).seq (vY [MV 41 0,MV 42 0,O1 43 .nilchk 41,vN 44 4 43,⟨none,none,.store 1,[.t 44,.c (.bool
 true)]⟩,O1 45 .nilchk 42,vN 46 5 45,⟨none,none,.store 1,[.t 46,.c (.bool false)]⟩])))))
theorem qkR:qI Tryz.prog 345 47 3 [] qn1:=fi Tryz.f345 [4,37,38] qa3 []
def qwH:C:=
 (vU [MV 2 0,O1 3 .nilchk 2,vN 4 0 3,⟨none,none,.store 1,[.t 4,.c .nilp]⟩] (vY [MV 5 0,O1 6 .nilchk 5,vN 7 1 6,⟨none,none,.store 1,[.t 7,.c .nl]⟩]))
theorem qyz:qI Tryz.prog 347 8 0 [] qwH:=fi Tryz.f347 [] qa3 []
def qww:C:=
 (vU [ON 4 (.nilo 0 6 119) [],vO 5 0] ((vU [MV 9 1,O1 10 .len 9,vO 11 0] (C.block 0 (vU [BI 12 .lss 11 10] ((vW 12 0).seq ((C.block 1 (vU [MV 13 11,MV 6 13] (vU [MV 14 1,MV 15
 6,MV 16 1,MV 17 6,O2 18 (.idxA 6) 16 17,vN 19 0 18,LD 20 19,O2 21 (.idxA 6) 14 15,vN 22 1 21,ST 1 22 20] ((vU [MV 23 1,MV 24 6,O2 25 (.idxA 6) 23 24,O1 26 (.load (some 6))
 25,O1 27 (.call 258 true) 26,O1 28 (.un UnOp.not) 27] (vV 28 (C.exit 1))).seq (vU [MV 30 0,MV 31 1,MV 32 6,O2 33 (.idxA 6) 31 32,vN 34 0 33,LD 35 34,O2 36 (.call 348 true) 30
 35,MV 29 36,O1 37 (.ext 0) 29,O1 38 (.ext 1) 29,MV 7 37,MV 8 38] ((vU [MV 39 8,vP 40 .neq 39 0] (vV 40 (vX [MV 41 8,ON 4 (.nilo 0 6 119) [],MV 5 41]))).seq (vY [MV 42 1,MV 43
 6,MV 44 7,O2 45 (.idxA 6) 42 43,vN 46 1 45,ST 1 46 44]))))))).seq (vY [vP 47 .add 11 1,MV 11 47])))).loop)).seq (vX [MV 48 1,MV 4 48,vO 5 0])))
theorem qyl:qI Tryz.prog 290 49 1 [RV.tmp 4,RV.tmp 5] qww:=fi Tryz.f290 [4] qa3 []
end
section
open Go Go.Proofs AF HY LN
namespace RC
theorem itN(s:Str):qns Tryz.prog 372 [.ip [jQ s]] [[.agg (plC s)]]:=by
 intro h ts LI S E hS hE body start hts;have hb:(h++ [AObj.lp LS.ready ts LI]).length=h.length+1:=by simp
 have ea: ∀st,h++ [AObj.lp st ts LI]++ [.mem 1 411 [.yld h.length],.mem 1 412 [.fn (.func 373) [] [.op (h.length+1) 1 0,.op (h.length+2) 1 0]]]=h++ [AObj.lp st ts LI,cyl h.length,cwk h.length]:=λst=>by simp[cyl,cwk]
 refine acQ qyB ?_;simp (disch:=omega) only[qwJ,jQ,go_sem]
 repeat' first|with_reducible apply aiA|exact clz|fail
 simp only[hb,Nat.add_assoc,Nat.reduceAdd,ea];refine qjV (wlk1 s h ts LI S E hS hE body start hts) ?_;rintro v h' ⟨hh',⟨rfl,hn,rfl⟩|⟨st,rfl,hs',rfl⟩⟩
 ·simp (disch:=omega) only[go_sem];obtain⟨r1,r2⟩:=(hS _ _ hn).retX (L:=LI) (xs:= []) .ready hts;have eO:hh'++ [.lp .ready ts LI,cyl h.length,cwk h.length]=(hh'++ [.lp .ready ts LI])++ [cyl h.length,cwk h.length]:=by simp
  rw[eO];exact zR trivial r1 r2 ⟨hh',.inl ⟨hn,rfl⟩⟩ (qi)
 ·simp (disch:=omega) only[go_sem];obtain⟨r1,r2⟩:=(hE _ _ hs').retX (L:=LI) (xs:= []) st hts;have eO:hh'++ [.lp st ts LI,cyl h.length,cwk h.length]=(hh'++ [.lp st ts LI])++ [cyl h.length,cwk h.length]:=by simp
  rw[eO];exact zR trivial r1 r2 ⟨hh',.inr ⟨st,hs',rfl⟩⟩ (qi)
theorem qt6(s:Str)(h:wh):ACalls Tryz.prog 338 [jQ s] h (.fn (.func 372) [] [.ip [jQ s]]) h:=by
 refine acO qys ?_;simp (disch:=omega) only[qwB,jQ,ndC,go_sem]
 repeat' first|exact wa|fail
theorem qFm(n:Int)(k v:Nat)(h:wh)(hk:qt k h=some (.mem v 3 [.int .i64 n]))(h0:1<=n)(h1:n<=4096):ACalls Tryz.prog 337 [.op k v 0] h (.bool true) (qr k h (.mem v 3 [.int .i64 (n-1)])):=by
 have hkl:=zK hk;have c1:=qR hk;have k1:(0<=n-1)=True:=wl;have ht:qny (qt k h)=3:=by rw[hk];rfl
 refine acO qyr ?_;simp (disch:=omega) only[qwA,c1,k1,go_sem]
 repeat' first|with_reducible apply aiA|exact clz|fail
 rw[ht];exact qgw ⟨trivial,trivial⟩ qL (qpa (λn c hc=>by simp at hc;subst hc;rfl)) ⟨rfl,rfl⟩ (qi)
theorem qfB(s:Str)(v:Nat)(ty:TypeId): ∀n,lowO n (.mem v ty (plC s)):=λn c hc=>by
 simp[plC]at hc;rcases hc with rfl|rfl|rfl|rfl|rfl|rfl<;>rfl
theorem qDR(s:Str)(k:Int)(h:wh)(h1:2<=k)(h2:k<=11)(hc: ∀l,ACalls Tryz.prog 283 [jQ s] (h++l) (.int .i64 0) (h++l)):ACalls Tryz.prog 285 [jQ s,.int .i64 k] h (.tup [.int .i64 0,.int .i64 0]) h:=by
 have c1:=λh=>qt6 s h
 have k1:(k<1)=False:=wm;have k2:(11<k)=False:=wm;have k3:((1:Int)=k)=False:=wm;unfold jQ at c1 hc;refine acO qyi ?_;simp (disch:=omega) only[qwt,jQ,go_sem]
 repeat' first|((first|refine cA (hc _) ?_ ?_|refine cA (c1 _) ?_ ?_);exact flk;simp (disch:=omega) only[k1,k2,go_sem])|with_reducible apply aiA|exact clz|fail
 refine zE (xs:= [[.agg (plC s)]]) (itN s) (by simp)
  (S:=λi hh=> ∃O,qy [O] 0=true∧(∀n,lowO n O)∧hh=h++ [.mem 1 3 [.int .i64 k],.mem 1 3 [.int .i64 0],O]) (E:=λ_ _=>False) ?_ ?_ ?_ ?_ ?_ ?_ ?_
 ·rintro i hh ⟨O,_,l1,rfl⟩;refine LowI.app rfl (λo ho=> ?_);simp only[List.mem_cons,List.not_mem_nil,or_false]at ho;rcases ho with rfl|rfl|rfl
  ·left;simp
  ·left;simp
  ·right;exact⟨l1 _,l1 _⟩
 ·intro s hh hf;exact hf.elim
 ·exact⟨.emp 0,rfl,λ_=>trivial,rfl⟩
 ·simp[qT,qT.lowVs]
  try omega
 ·rintro i hh tl LI TS hi ⟨O,s1,l1,rfl⟩ hlen K K2 hK hN hR' hX;obtain rfl:i=0:=by simp at hi;omega
  have s1': ∀m,qy (O::m) 0=true:=λ_=>s1
  show qV _ _ _ _ (kK _ _ [.agg (plC s)]) _;simp only[kK];simp (disch:=omega) only[List.append_assoc,plC,s1',go_sem];refine hK _ _ (h++ [.mem 1 3 [.int .i64 k],.mem 1 3 [.int .i64 0],.mem (qo (some O)+1) 386 (plC s)]) (by simp[plC]) (by simp) ?_;simp (disch:=omega) only[List.append_assoc,plC,k3,go_sem]
  repeat' first|with_reducible apply aiA|exact clz|fail
  refine hN _ _ (h++ [.mem 1 3 [.int .i64 k],.mem 1 3 [.int .i64 0],.mem (qo (some O)+1) 386 (plC s)]) (by simp[plC]) (by simp) ⟨.mem (qo (some O)+1) 386 (plC s),rfl,qfB s _ _,rfl⟩
 ·rintro hh ⟨O,s1,l1,rfl⟩;simp (disch:=omega) only[go_sem]
  repeat' first|exact wa|with_reducible apply aiA|exact clz|fail
 ·intro e hh hf;exact hf.elim
end RC
end
section
open Go Go.Proofs AF
def qto:List Nat:= [277,278,377,347,287,344,288,345,290]
def qwD:C:=
 (vU [MC 2 (.str [])] (vU [⟨some 3,none,.alloc 0 333 [.nilp,.nl],[]⟩] (vU [⟨some 4,none,.alloc 1 416 [.nilfn],[]⟩] (vU [O2 5 (.mkfn (Fn.func 374) 0) 3 4,ST 1 4 5] ((C.wk.seq (vY
 [LD 6 4,MV 7 0,O2 8 .callv 6 7])).seq (vX [O1 9 (.call 278 false) 3,MV 2 9]))))))
theorem qyv:qI Tryz.prog 340 10 3 [RV.tmp 2] qwD:=fi Tryz.f340 [3,4,8] qto [4]
end
