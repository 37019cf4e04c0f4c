import Derived.Test.YtmieflnoheifbaaGreatDoorK11
import Derived.Test.YtmieflnoheifbaaGreatDoorK10
import Derived.Shelf.Slices.In.SortAlone
import Derived.Shelf.Slices.In.CompactI
import Derived.Test.YtmieflnoheifbaaGreatDoorProg
import Derived.Test.YtmieflnoheifbaaGreatDoorK9
import Derived.Sort.OwnSortedInts
import Derived.Test.YtmieflnoheifbaaGreatDoorK3
import Derived.Test.YtmieflnoheifbaaGreatDoorK5
import Derived.Test.YtmieflnoheifbaaGreatDoorK8
import Derived.Lib.IndexMore
import Derived.Lib.CountLaws
import Derived.Laws.Strings3
import Derived.Test.YtmieflnoheifbaaGreatDoorK7
import Derived.Shelf.Strings.BuilderX
import Derived.Shelf.RegionOpenPlain
import Derived.Lib.Strings
import Derived.Lib.Slices
import Derived.Lib.Walk
import Derived.Lib.Builder
import Derived.Lib.AppendStr
import Derived.Lib.UnsafeStr
import Derived.Lib.MakeNoZero
import Derived.WalkKit
import Derived.Laws.Externs
import Derived.RangeFuncBox
import Derived.Laws.Rows
set_option linter.all false
set_option maxHeartbeats 128000000
set_option maxRecDepth 100000
section
open Go Go.Proofs AF HY LN
namespace RC
theorem qFs(l:List Un)(f t:Nat)(k v k2 v2:Nat)(h:wh)(hk:qu k h=some (.mem v 3 [.int .i64 (f:Int)]))(hk2:qu k2 h=some (.mem v2 3 [.int .i64 (t:Int)]))(hn:l.length<=1000000000):
  ACalls Tryz.prog 14 [qZ l,.fn (.func 226) [] [.op k v 0,.op k2 v2 0]] h (.bool (rnB l (f,t))) h:=by
 have hc:=qR hk;have hc2:=qR hk2;unfold qZ rnB;refine qxL qC9 ⟨rfl,rfl⟩ ⟨rfl,rfl⟩ (qeG qzH l.length (λj=>unC (l.getD j default)) (λj=> .agg (unC (l.getD j default))) _ [] [.op k v 0,.op k2 v2 0] _ h (λi _=>⟨rfl,by simp[kv,unC],rfl,rfl,rfl⟩) (λi _=> ?_) om);refine ACalls.borrow ?_ rfl;have e:([AV.agg (unC (l.getD i default))]++ [AV.op k v 0,AV.op k2 v2 0]).map (rei (λ_=>true) h 8)= [.agg (unC (l.getD i default)),.ip [.int .i64 (f:Int)],.ip [.int .i64 (t:Int)]]:=by
  simp only[lca,lna,List.map_cons,List.map_nil,rei_op,if_true,hc,hc2,ipOf_some,List.drop_zero,rei_agg];rfl
 rw[lna,e];exact qGd _ _ _ _
theorem qn1(l:List Un)(i:Nat):beH l (i+1)=(l.getD i default).to:=by unfold beH;rw[ine om,Nat.add_sub_cancel]
theorem qtU(u:Un)(n v:Nat)(ty:TypeId):lowO n (.mem v ty (unC u)):=by
 intro c hc;simp only[unC,List.mem_cons,List.not_mem_nil,or_false]at hc;rcases hc with rfl|rfl|rfl<;>rfl
theorem qtT(x:Co)(n v:Nat)(ty:TypeId):lowO n (.mem v ty (coC x)):=by
 intro c hc;simp only[coC,List.mem_cons,List.not_mem_nil,or_false]at hc;rcases hc with rfl|rfl|rfl|rfl<;>rfl
theorem qmn(x:Co): ∀a∈rnX x,a.length=2:=by
 intro a ha;unfold rnX at ha;obtain⟨_,_,rfl⟩:=List.mem_map.1 ha;rfl
theorem qfU(x:Co):(rnX x).length=(qdh (cmB x) x.col.length).length:=by simp[rnX]
theorem qmm{x:Co}{i:Nat}(hi:i<(rnX x).length):(rnX x)[i]= [.int .i64 (((qdh (cmB x) x.col.length).getD i (0,0)).1:Int),.int .i64 (((qdh (cmB x) x.col.length).getD i (0,0)).2:Int)]:=by
 have h2:i<(qdh (cmB x) x.col.length).length:=by rw[<-qfU];exact hi
 simp only[rnX,List.getElem_map];rw[gdqA,zD h2];rfl
theorem qmg(x:Co)(f d:Nat)(hd:d<=1000000000)(s:Nat)(hs:s<=1000000000):qi2 (kI x f d s):=by
 have hI:=qca x f d s;have hH:=qdP x f d s;have hl:=qdQ x f d s;refine⟨om,?_,?_⟩
 ·exact jH _ (λr:Rd=>r.src.length<=1000000000) (by decide) λj hj=>by
   have:=hI.src ((kI x f d s).getD j default) (by rw[gdqA,zD hj];exact List.getElem_mem hj)
   have:=qfq (hi:=(s:Int)) (lo:=0) this.1 this.2
   omega
 ·exact jH _ (λr:Rd=>r.words.length<=1000000000) (by decide) λj hj=>by
   have h1:=hH.nn j hj;obtain⟨y,ys,e⟩:=List.exists_cons_of_ne_nil h1;have h2:=hH.wd j hj y (by rw[e];exact List.mem_cons_self);rw[h2]
   have:=qaq x y.toNat f d
   omega
theorem qGe(x:Co)(l:List Un)(h:wh)(ho:CoOk x)(hn:x.col.length<=1000000000)(hu:qcS l):ACalls Tryz.prog 152 [.agg (coC x),qZ l] h (.bool (rgB x l)) h:=by
 have hsg:=ho.sg;have hl:=hu.n;obtain⟨R,hR⟩:=wg (rgB x l)
 rw[<-hR];unfold rgB at hR;refine acO qyk ?_;simp (disch:=omega) only[qwk,coC,qZ,go_sem]
 repeat' first|with_reducible apply aiA|exact clz|fail
 refine qk (T:=λi:Nat×AObj=>qP 63 [(2,.op h.length 1 0),(3,.op (h.length+1) 1 0),(4,.op (h.length+2) 1 0),(5,.int .i64 (beH l i.1)),(10,qZ l),(11,.int .i64 l.length),(12,.int .i64 i.1)])
  (H:=λi=>h++ [.mem 1 26 (coC x),.mem 1 31 [qZ l],.mem 1 4 [.bool false],i.2,.emp 0,.emp 0])
  (inv:=λi=>i.1<=l.length∧qz [i.2] 0=true∧(∀n,lowO n i.2)∧ ∀j,j<i.1->unB x (beH l j) (l.getD j default)=true) (m:=λi=>l.length-i.1) (0,.emp 0) ⟨nzl _,rfl,λ_=>trivial,λj hj=>absurd hj (nnz j)⟩ (Wk.temps ?_) ?_
 ·(simp only[qZ,beH,go_sem,qf,qc,qa,qe];try exact we)
 rintro⟨i,O⟩ ⟨i1,i2,il,i3⟩ K hK;simp only at i1 i2 il i3 hK;have i2': ∀m,qz (O::m) 0=true:=λ_=>i2
 by_cases hi:i<l.length
 ·have k1:((i:Int)<l.length)=True:=wj;have hno:unB x (beH l i) (l.getD i default)=false->R=false:=λhx=>by
   rw[hR];unfold qbc;rw[qN.2 ⟨i,hi,by rw[hx];rfl⟩];rfl
  have hS:unB x (beH l i) (l.getD i default)=true-> ∀j,j<i+1->unB x (beH l j) (l.getD j default)=true:=λhx j hj=>by
   by_cases e:j=i
   ·subst e;exact hx
   ·exact i3 j om
  have hbs:=qn1 l i;have zrd:qi2 (l.getD i default).rds:=⟨hu.rd i,hu.sr i,hu.wd i⟩
  obtain⟨u,hux⟩:=wg (l.getD i default)
  have eu:=hux.symm;rw[eu]at hno hS hbs zrd;obtain⟨b,hb⟩:=wg (beH l i)
  have eb:=hb.symm;rw[eb]at hno hS;have hB:unB x b u= !(decide (u.frm<=b)||(decide (u.frm<0)||(decide (u.to<=u.frm)||(decide ((x.col.length:Int)<u.to)|| !decide (u.rds=qbL x u.frm.toNat u.to.toNat))))):=rfl
  by_cases g1:u.frm<=b
  ·have q1:(u.frm<=b)=True:=eqt g1;rw[hno (by rw[hB,dqt g1];rfl)];simp (disch:=omega) only[qZ,unC,coC,qv,jh,k1,eu,eb,i2',q1,go_sem]
   repeat' first|(refine qj ( jh []) ?_;simp (disch:=omega) only[jh,go_sem])|exact wa|with_reducible apply aiA|exact clz|fail
  have q1:(u.frm<=b)=False:=eqf g1
  by_cases g2:u.frm<0
  ·have q2:(u.frm<0)=True:=eqt g2;rw[hno (by rw[hB,dqt g2];simp)];simp (disch:=omega) only[qZ,unC,coC,qv,jh,k1,eu,eb,i2',q1,q2,go_sem]
   repeat' first|(refine qj ( jh []) ?_;simp (disch:=omega) only[jh,go_sem])|exact wa|with_reducible apply aiA|exact clz|fail
  have q2:(u.frm<0)=False:=eqf g2
  by_cases g3:u.to<=u.frm
  ·have q3:(u.to<=u.frm)=True:=eqt g3;rw[hno (by rw[hB,dqt g3];simp)];simp (disch:=omega) only[qZ,unC,coC,qv,jh,k1,eu,eb,i2',q1,q2,q3,go_sem]
   repeat' first|(refine qj ( jh []) ?_;simp (disch:=omega) only[jh,go_sem])|exact wa|with_reducible apply aiA|exact clz|fail
  have q3:(u.to<=u.frm)=False:=eqf g3
  by_cases g4:(x.col.length:Int)<u.to
  ·have q4:((x.col.length:Int)<u.to)=True:=eqt g4;rw[hno (by rw[hB,dqt g4];simp)];simp (disch:=omega) only[qZ,unC,coC,qv,jh,k1,eu,eb,i2',q1,q2,q3,q4,go_sem]
   repeat' first|(refine qj ( jh []) ?_;simp (disch:=omega) only[jh,go_sem])|exact wa|with_reducible apply aiA|exact clz|fail
  have q4:((x.col.length:Int)<u.to)=False:=eqf g4;obtain⟨f,hf⟩: ∃f:Nat,u.frm=(f:Int):=⟨u.frm.toNat,om⟩
  obtain⟨t,ht⟩: ∃t:Nat,u.to=(t:Int):=⟨u.to.toNat,om⟩
  have c48:=λh=>qE5 x f t h ho om hn
  have zF:qi2 (qbL x f t):=qmg x f (t-f) om x.sig.length om;have c49:=λh=>qGk u.rds (qbL x f t) h zrd zF
  have eft:qbL x u.frm.toNat u.to.toNat=qbL x f t:=by rw[hf,ht,itn,itn]
  rw[dqf g1,dqf g2,dqf g3,dqf g4,eft]at hB;obtain⟨F,hF⟩:=wg (qbL x f t)
  rw[<-hF]at hB;simp only[<-hF]at c48 c49;obtain⟨c,hc⟩:=wg (decide (u.rds=F))
  rw[<-hc]at hB;simp only[<-hc]at c49;rw[hf]at q1 q2 q3;rw[ht]at q3 q4;unfold coC qv at c48;unfold jh at c48 c49;cases c with
  |false=>
   rw[hno hB];simp (disch:=omega) only[qZ,unC,coC,qv,jh,k1,eu,eb,i2',q1,q2,q3,q4,hf,ht,go_sem]
   repeat' first|((first|refine cG (λe=>c48 _) ?_ ?_|refine cG (λe=>c49 _) ?_ ?_);exact flk;simp (disch:=omega) only[go_sem])|exact wa|with_reducible apply aiA|exact clz|fail
  |true=>
   simp (disch:=omega) only[qZ,unC,coC,qv,jh,k1,eu,eb,i2',q1,q2,q3,q4,hf,ht,go_sem]
   repeat' first|((first|refine cG (λe=>c48 _) ?_ ?_|refine cG (λe=>c49 _) ?_ ?_);exact flk;simp (disch:=omega) only[go_sem])|with_reducible apply aiA|exact clz|fail
   refine hK _ _ (i+1,.mem (qo (some O)+1) 39 (unC u)) ⟨hi,rfl,λn=>qtU u n _ _,hS hB⟩ (by simp only;omega) ?_;simp only[hbs,ht,unC,hf];refine Wk.temps ?_
   (simp only[qZ,go_sem,qf,qc,qa,qe];try exact we)
 have k1:((i:Int)<l.length)=False:=wl;obtain rfl:i=l.length:=by omega
 have hun:qbc x l=true:=by
  unfold qbc;rw[qp.2 λj hj=>by rw[i3 j hj];rfl];rfl
 rw[hun,Bool.true_and]at hR;have hcv:=qs7 hun;clear hK;have c56:=λh=>qE6 x h
 unfold coC qv at c56;simp (disch:=omega) only[coC,qv,k1,go_sem]
 repeat' first|(refine cA (c56 _) flk ?_;simp (disch:=omega) only[go_sem])
 obtain⟨rs,hrs⟩:=wg (qdh (cmB x) x.col.length)
 have hrl:=qfU x;have hrg:=λi hi=>qmm (x:=x) (i:=i) hi
 rw[<-hrs]at hrl hcv;simp only[<-hrs]at hrg;refine zJ (xs:=rnX x) (itR x ho hn) (qmn x)
  (S:=λi hh=>(∃O8 O9,qz [O8] 0=true∧qz [O9] 0=true∧(∀n,lowO n O8)∧(∀n,lowO n O9)∧hh=h++ [.mem 1 26 (coC x),.mem 1 31 [qZ l],.mem 1 4 [.bool false],O,O8,O9])∧ ∀j,j<i->rnB l (rs.getD j (0,0))=true)
  (E:=λs hh=>s= .ret∧R=false∧ ∃O8 O9,(∀n,lowO n O8)∧(∀n,lowO n O9)∧hh=h++ [.mem 1 26 (coC x),.mem 1 31 [qZ l],.mem 1 4 [.bool false],O,O8,O9]) ?_ ?_ ?_ ?_ ?_ ?_ ?_
 ·rintro i hh ⟨⟨O8,O9,_,_,l8,l9,rfl⟩,_⟩;refine LowI.app rfl (λo ho=> ?_);simp only[List.mem_cons,List.not_mem_nil,or_false]at ho;rcases ho with rfl|rfl|rfl|rfl|rfl|rfl
  ·left;simp[coC,qv]
  ·left;simp
  ·left;simp
  ·left;simp
  ·right;exact⟨l8 _,l8 _⟩
  ·right;exact⟨l9 _,l9 _⟩
 ·rintro s hh ⟨_,_,O8,O9,l8,l9,rfl⟩;refine LowI.app rfl (λo ho=> ?_);simp only[List.mem_cons,List.not_mem_nil,or_false]at ho;rcases ho with rfl|rfl|rfl|rfl|rfl|rfl
  ·left;simp[coC,qv]
  ·left;simp
  ·left;simp
  ·left;simp
  ·right;exact⟨l8 _,l8 _⟩
  ·right;exact⟨l9 _,l9 _⟩
 ·exact⟨⟨.emp 0,.emp 0,rfl,rfl,λ_=>trivial,λ_=>trivial,rfl⟩,λj hj=>absurd hj (nnz j)⟩
 ·have lu: ∀n,qV n (qZ l)=true:=λ_=>rfl
  have lt: ∀n,qV n (qn x.tok)=true:=λ_=>rfl
  simp[qV,qV.lowVs,lu,lt,qgU]
  try omega
 ·rintro i hh tl LI TS hi ⟨⟨O8,O9,s8,s9,l8,l9,rfl⟩,hj⟩ hlen K K2 hK hN hR' hX;rw[hrg i hi];rw[hrl]at hi;obtain⟨⟨f,t⟩,hr⟩: ∃r,r=rs.getD i (0,0):=⟨_,rfl⟩
  have er:=hr.symm;rw[er];have s8': ∀m,qz (O8::m) 0=true:=λ_=>s8
  have s9': ∀m,qz (O9::m) 0=true:=λ_=>s9
  simp only[kN];simp (disch:=omega) only[List.append_assoc,coC,s8',s9',go_sem];refine hK _ _ (h++ [.mem 1 26 (coC x),.mem 1 31 [qZ l],.mem 1 4 [.bool false],O,.mem (qo (some O8)+1) 3 [.int .i64 (f:Int)],.mem (qo (some O9)+1) 3 [.int .i64 (t:Int)]]) (by simp[coC]) (by simp) ?_;simp (disch:=omega) only[List.append_assoc,go_sem]
  repeat' first|with_reducible apply aiA|exact clz|fail
  refine cA (qFs l f t (h.length+4) _ (h.length+5) _ _ ?ka ?kb hl) (by exact flk) ?_
  case ka=>simp only[go_sem]
  case kb=>simp only[go_sem]
  have l8': ∀n,lowO n (.mem (qo (some O8)+1) 3 [.int .i64 (f:Int)]):=λn c hc=>by simp at hc;subst hc;rfl
  have l9': ∀n,lowO n (.mem (qo (some O9)+1) 3 [.int .i64 (t:Int)]):=λn c hc=>by simp at hc;subst hc;rfl
  cases hb:rnB l (f,t)with
  |true=>
   simp (disch:=omega) only[go_sem];refine hN _ _ (h++ [.mem 1 26 (coC x),.mem 1 31 [qZ l],.mem 1 4 [.bool false],O,.mem (qo (some O8)+1) 3 [.int .i64 (f:Int)],.mem (qo (some O9)+1) 3 [.int .i64 (t:Int)]]) (by simp[coC]) (by simp) ⟨⟨_,_,rfl,rfl,l8',l9',rfl⟩,λj hj'=> ?_⟩
   by_cases e:j=i
   ·subst e;rw[er];exact hb
   ·exact hj j om
  |false=>
   have hRf:R=false:=by
    rw[hR];cases hc:cvA x l with
    |false=>rfl
    |true=>
     have h2:=List.all_eq_true.1 (hcv.2 hc) (f,t) (by rw[hr,gdqA,zD hi];exact List.getElem_mem hi);rw[hb]at h2;cases h2
   simp (disch:=omega) only[go_sem];refine hR' _ _ (h++ [.mem 1 26 (coC x),.mem 1 31 [qZ l],.mem 1 4 [.bool false],O,.mem (qo (some O8)+1) 3 [.int .i64 (f:Int)],.mem (qo (some O9)+1) 3 [.int .i64 (t:Int)]]) (by simp[coC]) (by simp) ⟨rfl,hRf,_,_,l8',l9',rfl⟩
 ·rintro hh ⟨⟨O8,O9,s8,s9,l8,l9,rfl⟩,hj⟩;have hRt:R=true:=by
   rw[hR];refine hcv.1 (List.all_eq_true.2 λr hr=> ?_);obtain⟨j,hj1,rfl⟩:=List.getElem_of_mem hr
   have:=hj j (by rw[hrl];exact hj1)
   rw[gdqA,zD hj1]at this;exact this
  rw[hRt];simp (disch:=omega) only[go_sem]
  repeat' first|exact wa|fail
 ·rintro e hh ⟨rfl,hRf,O8,O9,l8,l9,rfl⟩;rw[hRf];simp (disch:=omega) only[go_sem]
  repeat' first|exact wa|fail
theorem vaP(x:Co)(l:List Un)(h:wh)(hz:qbd x)(hu:qcS l)(hp:cb SG h):ACalls Tryz.prog 74 [.agg (coC x),qZ l] h (.int .i64 (vaE x l)) h:=by
 have c1:=λl'=>coP x (h++l') hz (hp.app l')
 unfold vaE
 by_cases g:coE x=0
 case neg=>
  have k1:(coE x=0)=False:=eqf g;rw[ipo g];obtain⟨e,he⟩:=wg (coE x)
  rw[<-he]at c1 k1;unfold coC at c1;refine acO qzK ?_;simp (disch:=omega) only[qCE,coC,go_sem]
  repeat' first|(refine cA (c1 _) flk ?_;simp (disch:=omega) only[k1,go_sem])|exact wa|fail
 rw[ine (λhc=>hc g)];have c2:=λh=>qGe x l h (qag g) hz.cl hu
 rw[g]at c1;unfold coC at c1 c2;cases g2:rgB x l<;>rw[g2]at c2
 all_goals
  refine acO qzK ?_;simp (disch:=omega) only[qCE,coC,go_sem]
  repeat' first|((first|refine cA (c1 _) ?_ ?_|refine cA (c2 _) ?_ ?_);exact flk;simp (disch:=omega) only[go_sem])|exact wa|fail
theorem zS{α:Type}{L:List α}{a:α}{i:Nat}(h:i<L.length):L.getD i a∈L:=by
 rw[gdqA,zD h];exact List.getElem_mem h
theorem qdz{α:Type}{L:List α}{a b:α}{i:Nat}(h:i<L.length):(L.set i b).getD i a=b:=by
 rw[gdqA,List.getElem?_set,ipo rfl,ipo h];rfl
def bgn(c:UInt8):Bool:=decide (kind c=1)||decide (kind c=3)
theorem U3{c:UInt8}(h:bgn c=true):ko c=true:=by
 unfold bgn at h;unfold ko;rw[Bool.or_eq_true]at h ⊢;rcases h with h|h
 ·exact .inl h
 ·exact .inr (by rw[h];rfl)
def tkF(f:Int)(w:Str):Tk:=⟨w,[],[],0,f,[]⟩
structure Bs where
 done:List Tk
 opn:Bool
 fl:Int
 word:Str
 jn:Bool
def Bs.fin(b:Bs):List Tk:=b.done++if b.opn=true then [tkF b.fl b.word] else []
def Bs.out(b:Bs):List Tk:=b.done++if b.opn=true then [tkF b.fl []] else []
def jfl(j:Bool)(n:Nat):Int:=if j=true∧0<n then 16 else 0
def Bs.stp(b:Bs)(c:UInt8):Bs:=
 if b.opn=true∧ko c=true then ⟨b.done,true,b.fl,b.word++ [c],b.jn⟩
 else if bgn c=true then ⟨b.fin,true,jfl b.jn b.fin.length,[c],true⟩
 else if kind c=6 then ⟨b.fin,false,0,[],false⟩
 else ⟨b.fin++ [tkF (8+jfl b.jn b.fin.length) [c]],false,0,[],true⟩
def bs0:Bs:=⟨[],false,0,[],false⟩
def bsL(s:Str):Bs:=s.foldl Bs.stp bs0
theorem qaC(s:Str)(c:UInt8):bsL (s++ [c])=(bsL s).stp c:=by unfold bsL;rw[List.foldl_append];rfl
def tkN(t:Tk):Tk:=⟨t.text,t.text,t.page,t.line,t.flags,t.name⟩
def qaw(s:Str):List Tk:=(bsL s).fin
def qav(s:Str):List Tk:=(qaw s).map tkN
def qfO(L:List Tk):Bool:=jC (λj=>decide (64<(L.getD j default).text.length)) L.length
def qcA(s:Str):Int:=if qfO (qaw s)=true then 4 else 0
def TkG(t:Tk):Prop:=t=tkF t.flags t.text∧(((t.flags=0∨t.flags=16)∧ ∃c r,t.text=c::r∧bgn c=true∧ ∀b∈r,ko b=true)∨((t.flags=8∨t.flags=24)∧ ∃c,t.text= [c]∧bgn c=false∧kind c≠6))
structure qnP (s:Str) (b:Bs):Prop where
 cl:b.opn=false->b.word= []∧b.fl=0
 op:b.opn=true->TkG (tkF b.fl b.word)∧b.jn=true∧(b.fl=0∨b.fl=16)
 dn: ∀t∈b.done,TkG t
 len:b.fin.length<=s.length
 cat:(b.fin.map Tk.text).flatten=s.filter λc=> !decide (kind c=6)
theorem Bs.fin_ok{s:Str}{b:Bs}(h:qnP s b): ∀t∈b.fin,TkG t:=by
 intro t ht;unfold Bs.fin at ht;rcases List.mem_append.1 ht with ht|ht
 ·exact h.dn t ht
 ·split at ht
  ·rename_i ho;rw[List.mem_singleton]at ht;subst ht;exact (h.op ho).1
  ·cases ht
theorem qfL{c:UInt8}(h:ko c=true):kind c≠6:=by
 unfold ko at h;simp only[Bool.or_eq_true,decide_eq_true_eq]at h;omega
theorem qeL(j:Bool)(n:Nat):jfl j n=0∨jfl j n=16:=by
 unfold jfl;split
 ·exact .inr rfl
 ·exact .inl rfl
theorem qaK(s:Str)(c:UInt8):(s++ [c]).filter (λc=> !decide (kind c=6))=s.filter (λc=> !decide (kind c=6))++if kind c=6 then [] else [c]:=by
 rw[List.filter_append];congr 1
 by_cases h:kind c=6
 ·simp[h]
 ·simp[h]
theorem qBi{s:Str}{b:Bs}(h:qnP s b)(c:UInt8):qnP (s++ [c]) (b.stp c):=by
 have hf:=Bs.fin_ok h;have hl:=h.len;have hc:=h.cat;unfold Bs.stp;split
 ·rename_i g;obtain⟨g1,g2⟩:=g;obtain⟨⟨_,k1⟩,k2,k3⟩:=h.op g1;have kw: ∃e r,b.word=e::r∧bgn e=true∧ ∀x∈r,ko x=true:=by
   rcases k1 with⟨_,k⟩|⟨k,_⟩
   ·exact k
   ·exact absurd k (by have:(tkF b.fl b.word).flags=b.fl:=rfl;rw[this];omega)
  refine⟨λe=>(by cases e),λ_=>⟨⟨rfl,.inl ⟨k3,?_⟩⟩,k2,k3⟩,h.dn,?_,?_⟩
  ·obtain⟨e,r,e1,e2,e3⟩:=kw;refine⟨e,r++ [c],?_,e2,λx hx=> ?_⟩
   ·show b.word++ [c]=_;rw[e1];rfl
   ·rcases List.mem_append.1 hx with hx|hx
    ·exact e3 x hx
    ·rw[List.mem_singleton]at hx;subst hx;exact g2
  ·unfold Bs.fin at hl ⊢;simp only[g1,if_true,lap,lco,lnl]at hl ⊢;omega
  ·unfold Bs.fin at hc ⊢;rw[qaK,ine (qfL g2),<-hc];simp[g1,tkF]
 rename_i g;split
 ·rename_i g2;have j:=qeL b.jn b.fin.length;refine⟨λe=>(by cases e),λ_=>⟨⟨rfl,.inl ⟨j,c,[],rfl,g2,λx hx=>by cases hx⟩⟩,rfl,j⟩,hf,?_,?_⟩
  ·show (b.fin++ [_]).length<=_;simp only[lap,lco,lnl];omega
  ·show ((b.fin++ [tkF _ [c]]).map Tk.text).flatten=_;rw[qaK,ine (qfL (U3 g2)),List.map_append,List.flatten_append,hc];rfl
 rename_i g2;have g2:bgn c=false:=by simpa using g2
 split
 ·rename_i g3;refine⟨λ_=>⟨rfl,rfl⟩,λe=>(by cases e),hf,?_,?_⟩
  ·show (b.fin++ []).length<=_;simp only[lap,lnl,lco];omega
  ·show ((b.fin++ []).map Tk.text).flatten=_;rw[lan,qaK,ipo g3,hc,lan]
 ·rename_i g3;have j:=qeL b.jn b.fin.length;refine⟨λ_=>⟨rfl,rfl⟩,λe=>(by cases e),λt ht=> ?_,?_,?_⟩
  ·rcases List.mem_append.1 ht with ht|ht
   ·exact hf t ht
   ·rw[List.mem_singleton]at ht;subst ht;refine⟨rfl,.inr ⟨?_,c,rfl,g2,g3⟩⟩;show 8+jfl b.jn b.fin.length=8∨8+jfl b.jn b.fin.length=24;omega
  ·show (b.fin++ [_]++ []).length<=_;simp only[lap,lnl,lco];omega
  ·show ((b.fin++ [tkF _ [c]]++ []).map Tk.text).flatten=_;rw[lan,qaK,ine g3,List.map_append,List.flatten_append,hc];rfl
theorem qcV(s:Str):qnP s (bsL s):=by
 have key: ∀n,n<=s.length->qnP (s.take n) (bsL (s.take n)):=by
  intro n
  induction n with
  |zero=>intro _;exact⟨λ_=>⟨rfl,rfl⟩,λe=>(by cases e),λt ht=>(by cases ht),nlr _,rfl⟩
  |succ n ih=>
   intro hn;rw[List.take_add_one,zD hn];show qnP (s.take n++ [s[n]]) (bsL (s.take n++ [s[n]]));rw[qaC];exact qBi (ih om) _
 have:=key s.length (nlr _)
 rwa [List.take_length]at this
theorem qhm(s:Str): ∀t∈qaw s,TkG t:=Bs.fin_ok (qcV s)
theorem qfd(s:Str):(qaw s).length<=s.length:=(qcV s).len
theorem UC(s:Str):(qav s).length<=s.length:=by unfold qav;rw[List.length_map];exact qfd s
theorem TkG.ne{t:Tk}(h:TkG t):t.text≠ []:=by
 rcases h.2 with⟨_,c,r,e,_⟩|⟨_,c,e,_⟩<;>rw[e]<;>exact List.cons_ne_nil _ _
theorem qcv{L:List Str}{w:Str}(h:w∈L):w.length<=L.flatten.length:=by
 induction L with
 |nil=>cases h
 |cons a r ih=>
  rw[List.flatten_cons,lap];rcases List.mem_cons.1 h with rfl|h
  ·omega
  ·have:=ih h;omega
theorem qgi(s:Str){t:Tk}(ht:t∈qav s): ∃u,TkG u∧t=tkN u∧u∈qaw s:=by
 unfold qav at ht;obtain⟨u,hu,rfl⟩:=List.mem_map.1 ht;exact⟨u,qhm s u hu,rfl,hu⟩
theorem qbm{L:List Tk}:qfO L=false↔ ∀t∈L,t.text.length<=64:=by
 unfold qfO;rw[qp];constructor
 ·intro h t ht;obtain⟨j,hj,rfl⟩:=List.getElem_of_mem ht
  have:=of_decide_eq_false (h j hj)
  rw[gdqA,zD hj,Option.getD_some]at this;omega
 ·intro h j hj
  have:=h (L.getD j default) (by rw[gdqA,zD hj];exact List.getElem_mem hj)
  exact dqf om
theorem qu4{s:Str}:qcA s=0↔ ∀t∈qaw s,t.text.length<=64:=by
 unfold qcA;rw[<-qbm];cases qfO (qaw s)
 ·simp
 ·simp
def qd2(s:Str):Int:=if zz s≠0 then zz s else qcA s
def qfm(s:Str):List Str:=if qd2 s=0 then (qav s).map Tk.text else []
structure Dc where
 kind:Int
 sig:Str
 tok:Int
 txt:Str
instance:Inhabited Dc:=⟨⟨0,[],0,[]⟩⟩
def dcC(d:Dc):wi:= [.int .i64 d.kind,.str d.sig,.int .i64 d.tok,.str d.txt]
def kz(l:List Dc):AV:= .sl l.length λi=>dcC (l.getD i default)
theorem qkR(l:List Dc):(kz l).flag=true:=rfl
theorem qiC(l:List Dc):(kz l).strip=kz l:=rfl
theorem qp1{fz:Nat->Bool}{h:wh}{n:Nat}(l:List Dc):rei fz h (n+1) (kz l)=kz l:=rfl
theorem qo4{fz:Nat->Bool}{h:wh}{n:Nat}(l:List Dc):frz fz h (n+1) (kz l)=kz l:=rfl
attribute [go_sem] qkR qiC qp1 qo4
def qX(x:Co)(g:Str):Int:=qbE (λj=>decide (g=x.sig.getD j [])) x.sig.length 0
def kD(x:Co)(s:Nat)(t:Int):Int:=qbE (λk=>decide ((x.col.getD k []).getD s 0=t)) x.col.length 0
def kQ(x:Co)(l:List Un)(o:Dc):Int:=fnU l (kD x (qX x o.sig).toNat o.tok)
def tkB(x:Co)(o:Dc):Bool:=decide (0<=qX x o.sig)&&(decide (0<=o.tok)&&decide (o.tok<((x.tok.getD (qX x o.sig).toNat []).length:Int)))
def cjE(o:Dc):Int:=if o.kind=2 then (if qd2 o.txt≠0 then qd2 o.txt else if qfm o.txt= [] then 5 else 0) else 0
def qao(x:Co)(l:List Un)(o:Dc):Int:=
 if o.kind<1∨3<o.kind then 8 else if o.txt≠ []∧o.kind≠2 then 1 else if tkB x o=false then 6 else if kQ x l o<0 then 20 else cjE o
def UY(x:Co)(l:List Un)(d:List Dc):Int:=if 256<d.length then 4 else qah (λi=>qao x l (d.getD i default)) 0 d.length
theorem qfb{x:Co}{o:Dc}(h:tkB x o=true):0<=qX x o.sig∧(qX x o.sig).toNat<x.sig.length∧x.sig.getD (qX x o.sig).toNat []=o.sig∧0<=o.tok∧o.tok<((x.tok.getD (qX x o.sig).toNat []).length:Int):=by
 unfold tkB at h;rw[Bool.and_eq_true,Bool.and_eq_true,decide_eq_true_iff,decide_eq_true_iff,decide_eq_true_iff]at h;obtain⟨h1,h2,h3⟩:=h;rcases zE (λj=>decide (o.sig=x.sig.getD j [])) x.sig.length with⟨i,g1,g2,_,g4⟩|⟨_,g2⟩
 ·have e:qX x o.sig=i:=g4;rw[e]at h1 h3 ⊢;exact⟨h1,g1,(of_decide_eq_true g2).symm,h2,h3⟩
 ·have e:qX x o.sig= -1:=g2;omega
theorem qap{x:Co}{l:List Un}{o:Dc}(h:qao x l o=0):1<=o.kind∧o.kind<=3∧(o.txt= []∨o.kind=2)∧tkB x o=true∧0<=kQ x l o∧cjE o=0:=by
 unfold qao at h;split at h
 ·cases h
 split at h
 ·cases h
 split at h
 ·cases h
 split at h
 ·cases h
 rename_i h1 h2 h3 h4;refine⟨om,om,?_,by simpa using h3,om,h⟩
 by_cases e:o.txt= []
 ·exact .inl e
 ·exact .inr (Classical.not_not.1 λhc=>h2 ⟨e,hc⟩)
theorem qkr{o:Dc}(h:cjE o=0)(hk:o.kind=2):zz o.txt=0∧qcA o.txt=0∧qav o.txt≠ []∧o.txt≠ []:=by
 unfold cjE at h;rw[ipo hk]at h;split at h
 ·rename_i e;exact absurd h e
 rename_i h1;have h1:=Classical.not_not.1 h1;split at h
 ·cases h
 rename_i h2;unfold qfm at h2;rw[ipo h1]at h2;have h3:qav o.txt≠ []:=λe=>h2 (by rw[e];rfl)
 unfold qd2 at h1;split at h1
 ·rename_i e;exact absurd h1 e
 rename_i g;exact⟨Classical.not_not.1 g,h1,h3,λe=>h3 (by rw[e];rfl)⟩
structure Pc where
 t:Tk
 c:Int
instance:Inhabited Pc:=⟨⟨default,0⟩⟩
def pcB(x:Co)(s k:Nat):Bool:=decide (0<=(x.col.getD k []).getD s 0)
def pcT(x:Co)(s k:Nat):Pc:=⟨(x.tok.getD s []).getD ((x.col.getD k []).getD s 0).toNat default,(k:Int)⟩
def spk(x:Co)(s f:Nat):Nat->List Pc
 |0=> []
 |d+1=>spk x s f d++if pcB x s (f+d)=true then [pcT x s (f+d)] else []
structure Rw where
 p:Pc
 u:Int
 d:Int
instance:Inhabited Rw:=⟨⟨default,0,0⟩⟩
def qvh(f:Int):Bool:=f.toNat.testBit 2
def jnB(f:Int):Bool:=f.toNat.testBit 4
def qvE(b s:Str):Bool:=if ke b=true then !ke s&& !decide (s= [39]) else true
def mkW(pv:Option Str)(r:Rw):Wd:=⟨r.p.t.text,r.p.c,r.u,r.d,jnB r.p.t.flags&&(match pv with|none=>false|some b=>qvE b r.p.t.text),qvh r.p.t.flags,r.p.t.name⟩
def qg0(L:List Rw)(i:Nat):Option Str:=if i=0 then none else some (L.getD (i-1) default).p.t.text
def bsW(L:List Rw):List Wd:=(List.range L.length).map λi=>mkW (qg0 L i) (L.getD i default)
theorem jx(L:List Rw):(bsW L).length=L.length:=by unfold bsW;simp
theorem qjU{L:List Rw}{i:Nat}(hi:i<L.length):(bsW L).getD i default=mkW (qg0 L i) (L.getD i default):=by
 unfold bsW;rw[gdqA,List.getElem?_map,List.getElem?_range hi];rfl
theorem qaN{α:Type}{L M:List α}{a:α}{i:Nat}(hi:i<L.length):(L++M).getD i a=L.getD i a:=by
 rw[gdqA,gdqA,List.getElem?_append_left hi]
theorem qbh{α:Type}{L M:List α}{a:α}{i:Nat}:(L++M).getD (L.length+i) a=M.getD i a:=by
 rw[gdqA,gdqA,List.getElem?_append_right om,Nat.add_sub_cancel_left]
theorem qn7(L:List Rw)(r:Rw):bsW (L++ [r])=bsW L++ [mkW (qg0 (L++ [r]) L.length) r]:=by
 unfold bsW;rw[lap,lco,lnl,Nat.zero_add,List.range_succ,List.map_append];congr 1
 ·refine List.map_congr_left λi hi=> ?_
  rw[List.mem_range]at hi;have e1:(L++ [r]).getD i default=L.getD i default:=qaN hi;have e2:qg0 (L++ [r]) i=qg0 L i:=by
   unfold qg0;split
   ·rfl
   ·rw[qaN om]
  rw[e1,e2]
 ·have e1:(L++ [r]).getD L.length default=r:=by
   have:=qbh (L:=L) (M:= [r]) (a:=default) (i:=0)
   rw[Nat.add_zero]at this;rw[this];rfl
  rw[List.map_cons,List.map_nil,e1]
theorem qma(L:List Rw)(r:Rw):qg0 (L++ [r]) L.length=if L.length=0 then none else some ((bsW L).getD (L.length-1) default).text:=by
 unfold qg0;split
 ·rfl
 ·rw[qaN om,qjU om];rfl
def me(x:Co)(l:List Un)(d:List Dc)(k:Nat):Nat->Int
 |0=> -1
 |n+1=>if kQ x l (d.getD n default)=k then (n:Int) else me x l d k n
def frN(l:List Un)(k:Nat):Nat:=(l.getD k default).frm.toNat
def toN(l:List Un)(k:Nat):Nat:=(l.getD k default).to.toNat
def jq(l:List Un)(k:Nat):Nat:=if k=0 then 0 else toN l (k-1)
def qnM(x:Co)(l:List Un)(k:Nat)(o:Dc):List Pc:=
 if o.kind=1 then spk x (qX x o.sig).toNat (frN l k) (toN l k-frN l k) else if o.kind=2 then (qav o.txt).map (λt=>⟨t,(l.getD k default).frm⟩) else []
def rwM(ps:List Pc)(u d:Int):List Rw:=ps.map λp=>⟨p,u,d⟩
def rwC(x:Co)(s f t:Nat):List Rw:=rwM (spk x s f (t-f)) (-1) (-1)
def rwU(x:Co)(l:List Un)(d:List Dc)(s k:Nat):List Rw:=
 if me x l d k d.length<0 then rwM (spk x s (frN l k) (toN l k-frN l k)) k (-1)
 else rwM (qnM x l k (d.getD (me x l d k d.length).toNat default)) k (me x l d k d.length)
def rwL(x:Co)(l:List Un)(d:List Dc)(s:Nat):Nat->List Rw
 |0=> []
 |k+1=>rwL x l d s k++(rwC x s (jq l k) (frN l k)++rwU x l d s k)
def rwA(x:Co)(l:List Un)(d:List Dc)(s:Nat):List Rw:=rwL x l d s l.length++rwC x s (jq l l.length) x.col.length
def esE(x:Co)(l:List Un)(d:List Dc)(s:Int):Int:=
 if vaE x l≠0 then vaE x l else if s<0∨(x.sig.length:Int)<=s then 2 else if UY x l d≠0 then UY x l d else if 1024<(rwA x l d s.toNat).length then 4 else 0
def esR(x:Co)(l:List Un)(d:List Dc)(s:Int):List Wd:=if esE x l d s=0 then bsW (rwA x l d s.toNat) else []
theorem qdE(x:Co)(l:List Un)(d:List Dc)(k:Nat): ∀n,-1<=me x l d k n∧me x l d k n<n:=by
 intro n
 induction n with
 |zero=>exact⟨Int.le_refl _,by unfold me;omega⟩
 |succ n ih=>
  unfold me;split
  ·omega
  ·omega
theorem qtW{x:Co}{l:List Un}{d:List Dc}{k:Nat}: ∀ {n j:Nat},me x l d k n=j->kQ x l (d.getD j default)=k:=by
 intro n
 induction n with
 |zero=>intro j h;unfold me at h;omega
 |succ n ih=>
  intro j h;unfold me at h;split at h
  ·rename_i g;have e:n=j:=by omega
   rw[<-e];exact g
  ·exact ih h
theorem qd1(x:Co)(s f:Nat): ∀d,(spk x s f d).length<=d:=by
 intro d
 induction d with
 |zero=>exact nlr _
 |succ d ih=>
  unfold spk;rw[lap];split
  ·simp only[lco,lnl];omega
  ·simp only[lnl];omega
theorem qtZ{x:Co}{s f:Nat}{p:Pc}: ∀ {d:Nat},p∈spk x s f d↔ ∃k,f<=k∧k<f+d∧pcB x s k=true∧p=pcT x s k:=by
 intro d
 induction d with
 |zero=>
  constructor
  ·intro h;cases h
  ·rintro⟨k,h1,h2,_⟩;omega
 |succ d ih=>
  unfold spk;rw[List.mem_append,ih];constructor
  ·rintro (⟨k,h1,h2,h3⟩|h)
   ·exact⟨k,h1,om,h3⟩
   ·split at h
    ·rename_i g;rw[List.mem_singleton]at h;exact⟨f+d,om,om,g,h⟩
    ·cases h
  ·rintro⟨k,h1,h2,h3,h4⟩
   by_cases e:k<f+d
   ·exact .inl ⟨k,h1,e,h3,h4⟩
   ·have e:k=f+d:=by omega
    subst e;rw[ipo h3];exact .inr (List.mem_singleton.2 h4)
theorem jr(ps:List Pc)(u d:Int):(rwM ps u d).length=ps.length:=by unfold rwM;rw[List.length_map]
theorem cF{ps:List Pc}{u d:Int}{r:Rw}:r∈rwM ps u d↔r.p∈ps∧r.u=u∧r.d=d:=by
 unfold rwM;rw[List.mem_map];constructor
 ·rintro⟨p,hp,rfl⟩;exact⟨hp,rfl,rfl⟩
 ·rintro⟨h1,h2,h3⟩;exact⟨r.p,h1,by cases r;cases h2;cases h3;rfl⟩
def qm9(b:List Wd):List Str:=b.map (·.text)
theorem qBl{t:Tk}(h:tkE t=0):txB t=true:=by
 unfold tkE at h;split at h
 ·cases h
 split at h
 ·cases h
 split at h
 ·cases h
 rename_i h3;simpa using h3
end RC
end
section
namespace Go.Proofs
open Go.Shelf
end Go.Proofs
end
section
open Go Go.Proofs Go.Sort AF HY LN
namespace RC
end RC
end
section
open Go Go.Proofs AF HY LN
namespace RC
theorem qdu{a b:En}:qco a b=false↔a.to<=b.frm∧ ¬(a.frm=b.frm∧a.to=b.to):=by
 unfold qco;rw[Bool.or_eq_false_iff,decide_eq_false_iff_not,Bool.and_eq_false_iff,decide_eq_false_iff_not,decide_eq_false_iff_not];omega
theorem qDV{L:List En}(hs:L.Pairwise λa b=>qgx b a=false)(hr: ∀e∈L,e.frm<=e.to)(hc:UQ L=false):L.Pairwise λa b=>qco a b=false:=by
 induction L with
 |nil=>exact List.Pairwise.nil
 |cons a r ih=>
  have h0:=qmV hs hc;obtain⟨h1,h2⟩:=List.pairwise_cons.1 hs;have h3:=ih h2 (λe he=>hr e (List.mem_cons_of_mem _ he)) (qc0 hc);refine List.pairwise_cons.2 ⟨?_,h3⟩;cases r with
  |nil=>intro z hz;cases hz
  |cons b r=>
   have hab:qco a b=false:=by
    rw[UQ,Bool.or_eq_false_iff]at hc;exact hc.1
   intro z hz;have g0:=qaA.1 ((List.pairwise_cons.1 h0).1 z hz);rcases List.mem_cons.1 hz with rfl|hz'
   ·exact hab
   ·have g1:=qdu.1 ((List.pairwise_cons.1 h3).1 z hz');have g2:=qdu.1 hab;have g3:=hr b (by simp);rw[qdu];omega
theorem qgE: ∀ {L:List En},(L.Pairwise λa b=>qco a b=false)->UQ L=false
 | [],_=>rfl
 | [_],_=>rfl
 |a::b::r,h=>by
  obtain⟨h1,h2⟩:=List.pairwise_cons.1 h;rw[UQ,h1 b (by simp),qgE h2];rfl
theorem qh6(names:List Str)(gs:List Gr)(l:List En)(src:Int)(p:En->Bool):ofE names gs (l.filter p) src=(ofE names gs l src).filter p:=by
 have h:=qeB qgz qgy p l [] List.Pairwise.nil;unfold ofE qvN;rw[List.filter_nil]at h;rw[<-h,List.filter_reverse,List.filter_reverse,List.filter_reverse,List.filter_filter,List.filter_filter];congr 2;funext x;exact Bool.and_comm _ _
theorem qDR{names:List Str}{gs:List Gr}{t:List Str}{l:List En}(h:qvy names gs t l){s:Nat}(hs:s<names.length):(ofE names gs l (s:Int)).Pairwise λa b=>qco a b=false:=by
 refine qDV (qh7 names gs l s) (λe he=> ?_) (qad h.cl hs);have h1:e∈qvN l:=(List.mem_filter.1 he).1;have h2:=qkq.1 (h.ck e ((qe8 l).subset h1));exact h2.rng.2.1
theorem qvy.filter{names:List Str}{gs:List Gr}{t:List Str}{l:List En}(h:qvy names gs t l)(p:En->Bool):qvy names gs t (l.filter p):=
 ⟨h.sg,Nat.le_trans (List.length_filter_le _ _) h.n,λe he=>h.ck e ((List.mem_filter.1 he).1),qp.2 λs hs=>by
  rw[qh6]
  exact qgE (List.Pairwise.filter _ (qDR h hs))⟩
end RC
end
section
open Go Go.Proofs AF
end
section
open Go Go.Proofs AF HY LN
namespace RC
end RC
end
section
open Go Go.Proofs AF
end
section
namespace Go.Proofs
open Go.Shelf Go.RowKit Go.Lib
end Go.Proofs
end
section
open Go Go.Proofs AF HY
namespace HY
end HY
end
section
open Go Go.Proofs AF HY LN
namespace HY
end HY
namespace RC
end RC
end
section
open Go Go.Proofs AF HY LN
namespace RC
end RC
end
section
open Go Go.Proofs AF
end
section
open Go Go.Proofs AF HY LN
namespace RC
deriving instance DecidableEq for Va
deriving instance DecidableEq for En
def tkS(s:Str):Tk:=⟨s,s,[],0,0,[]⟩
def qbW:Str:= [100,101,117,115]
def qvL:Str:= [101,115,116]
def UF:Str:= [98,111,110,117,115]
def xCo:Co:=⟨[97],[[65],[66]],[[tkS qbW,tkS qvL,tkS UF],[tkS qbW,tkS UF]],[[0,0],[1,-1],[2,1]]⟩
def xUn:List Un:= [⟨1,2,[⟨[qvL],[0]⟩,⟨[],[1]⟩]⟩]
end RC
end
section
namespace AF
open Go
end AF
end
section
open Go Go.Proofs AF HY LN
namespace RC
theorem il2{f g:Nat->wi}(h0:f 0=g 0)(h1:f 1=g 1):ILe (.sl 2 f) (.sl 2 g):=ILe.sl_eq λi hi=>by
 match i,hi with
 |0,_=>exact h0
 |1,_=>exact h1
 |n+2,hi=>exact absurd hi om
theorem il3{f g:Nat->wi}(h0:f 0=g 0)(h1:f 1=g 1)(h2:f 2=g 2):ILe (.sl 3 f) (.sl 3 g):=ILe.sl_eq λi hi=>by
 match i,hi with
 |0,_=>exact h0
 |1,_=>exact h1
 |2,_=>exact h2
 |n+3,hi=>exact absurd hi om
theorem vl2{f g:Nat->wi}(h0:qax (f 0) (g 0))(h1:qax (f 1) (g 1)):VLe (.sl 2 f) (.sl 2 g):=VLe.sl λi hi=>by
 match i,hi with
 |0,_=>exact h0
 |1,_=>exact h1
 |n+2,hi=>exact absurd hi om
theorem vl3{f g:Nat->wi}(h0:qax (f 0) (g 0))(h1:qax (f 1) (g 1))(h2:qax (f 2) (g 2)):VLe (.sl 3 f) (.sl 3 g):=VLe.sl λi hi=>by
 match i,hi with
 |0,_=>exact h0
 |1,_=>exact h1
 |2,_=>exact h2
 |n+3,hi=>exact absurd hi om
theorem ie{a b:AV}(h:a=b):ILe a b:=by rw[h];exact ILe.refl _
section
variable {q : En -> Bool} {L : List En} {J : Nat}
end
section
variable {k v w : Nat} {h l : wh} {ty : TypeId} {cs : wi}
end
theorem qvx(b:List Wd)(h:wh)(hn:b.length<=1000000):ACalls Tryz.prog 19 [kq b] h (strs (qm9 b)) h:=by
 refine acO qDa ?_;simp (disch:=omega) only[qEA,kq,go_sem];refine qk (T:=λs:Nat×Nat×AObj×AObj=>qP 19 [(6,kq b),(7,.int .i64 b.length),(8,.int .i64 s.1),(3,.osl (h.length+1) s.2.1 1 0 s.1)])
  (H:=λs=>h++ [.emp 1,zw s.2.1 9 (jF (qm9 (b.take s.1))),s.2.2.1,s.2.2.2,.emp 0])
  (inv:=λs=>s.1<=b.length∧qz [s.2.2.1] 0=true∧qz [s.2.2.2] 0=true) (m:=λs=>b.length-s.1) (0,1,.emp 0,.emp 0) ⟨nzl _,rfl,rfl⟩ (Wk.temps ?_) ?_
 ·(simp only[kq,go_sem,qf,qc,qa,qe];try exact we)
 rintro⟨i,v,O1,O2⟩ ⟨i1,i2,i3⟩ K hK;simp only at i1 i2 i3 hK;have i2': ∀m,qz (O1::m) 0=true:=λ_=>i2
 have i3': ∀m,qz (O2::m) 0=true:=λ_=>i3
 have eL:(qm9 (b.take i)).length=i:=by unfold qm9;rw[List.length_map,List.length_take];omega
 by_cases hi:i<b.length
 ·have k1:((i:Int)<b.length)=True:=wj;have hS:qm9 (b.take (i+1))=qm9 (b.take i)++ [(b.getD i default).text]:=by
   unfold qm9;rw[List.take_add_one,zD hi,gdqA,zD hi,List.map_append];rfl
  obtain⟨L,hL⟩:=wg (qm9 (b.take i))
  rw[<-hL]at hS eL ⊢;obtain⟨w,hw⟩:=wg (b.getD i default)
  have ew:=hw.symm;rw[ew]at hS;have eC:=jG L;have eTk:List.take i (jF L)=jF L:=ltl om;simp (disch:=omega) only[kq,wdC,k1,ew,i2',i3',eC,eL,eTk,Nat.mul_one,go_sem]
  repeat' first|with_reducible apply aiA|exact clz|fail
  have eA:jF L++ [AV.str w.text]=jF (L++ [w.text]):=by simp[jF]
  have eD:(AV.str w.text::List.drop 1 (zM [AV.str []] 1))= [AV.str w.text]:=rfl;rw[eA,eD];refine hK _ _ (i+1,v+1,.mem (qo (some O1)+1) 133 (wdC w),.mem (qo (some O2)+1) 9 [.str w.text]) ⟨hi,rfl,rfl⟩ (by simp only;omega) ?_;simp only[hS,wdC];refine Wk.temps ?_
  (simp only[kq,wdC,go_sem,qf,qc,qa,qe];try exact we)
 have k1:((i:Int)<b.length)=False:=wl;obtain rfl:i=b.length:=by omega
 rw[List.take_length]at eL ⊢;simp (disch:=omega) only[k1,go_sem]
 repeat' first|(apply qb;exact rvk;simp only[go_sem])
 exact qa0 (λ_=>rfl) eL.symm
def qFF(names:List Str)(gs:List Gr)(p:Un)(v:Va):Bool:=decide (qhN names gs v.sigla=0)&&jC (λj=>decide ((p.rds.getD j default).words=v.words)&&decide ((p.rds.getD j default).src=qcE names gs v.sigla)) p.rds.length
def qFe(p:Un)(w:List Str):Nat->List Int
 |0=> []
 |j+1=>if (p.rds.getD j default).words=w then (p.rds.getD j default).src else qFe p w j
def okB(names:List Str)(gs:List Gr)(w:List Str)(p:Un)(e:En):Bool:=
 if jC (λj=> !qFF names gs p (e.vars.getD j default)) e.vars.length=true then false else if e.pos=false then decide (e.sup.length=0) else
  decide (qhN names gs e.sup=0)&&decide (qcE names gs e.sup=qFe p (qnN w e.frm.toNat e.to.toNat) p.rds.length)
def zG(L:List Wd):wi:=L.flatMap wdC
theorem qgq(e:Wd):(wdC e).length=7:=rfl
theorem j9(L:List Wd):(zG L).length=L.length*7:=by
 unfold zG
 induction L with
 |nil=>rfl
 |cons a L ih=>rw[List.flatMap_cons,lap,ih,lco,qgq];omega
theorem UD(A B:List Wd):zG (A++B)=zG A++zG B:=by simp[zG]
theorem qce(a:Wd):zG [a]=wdC a:=by simp[zG]
theorem qnE(L:List Wd): ∀i,(zG L).drop (i*7)=zG (L.drop i):=by
 induction L with
 |nil=>intro i;simp[zG]
 |cons a L ih=>
  intro i;cases i with
  |zero=>simp
  |succ i=>
   have e:zG (a::L)=wdC a++zG L:=rfl;rw[List.drop_succ_cons,e,List.drop_append,qgq,show (i+1)*7-7=i*7 by omega,ih];rw[List.drop_eq_nil_of_le (by rw[qgq];omega)];rfl
theorem qcc{L:List Wd}{i:Nat}(hi:i<L.length):((zG L).drop (i*7)).take 7=wdC (L.getD i default):=by
 rw[qnE,List.drop_eq_getElem_cons hi,gdqA,zD hi];rfl
theorem qoZ(L:List Wd):((List.range L.length).flatMap λi=>wdC (L.getD i default))=zG L:=by
 unfold zG;have e:L=(List.range L.length).map λi=>L.getD i default:=by
  apply List.ext_getElem (by simp);intro i h1 h2;simp[gdqA,h1]
 conv=>rhs;rw[e]
 rw[List.flatMap_map]
theorem quX(h:wh)(L:List Wd):ql h (kq L)=some (L.length,zG L):=by
 show some (L.length,_)=_;rw[qoZ]
theorem qcd(L:List Wd)(n:Nat): ∀c∈zG L,qV n c=true:=by
 intro c hc;unfold zG at hc;obtain⟨x,_,hx⟩:=List.mem_flatMap.1 hc;simp only[wdC,List.mem_cons,List.not_mem_nil,or_false]at hx;rcases hx with rfl|rfl|rfl|rfl|rfl|rfl|rfl<;>rfl
section
variable {q : Wd -> Bool} {L : List Wd} {J : Nat}
end
theorem qF9(b:List Wd)(k:Int)(h:wh)(hn:b.length<=1000000):ACalls Tryz.prog 90 [kq b,.int .i64 k] h (strs (owG b k b.length)) h:=by
 refine acO qDq ?_;simp (disch:=omega) only[qEQ,kq,go_sem];refine qk (T:=λs:Nat×Nat×AObj×AObj=>qP 25 [(1,.int .i64 k),(8,kq b),(9,.int .i64 b.length),(10,.int .i64 s.1),(5,.osl (h.length+1) s.2.1 1 0 (owG b k s.1).length)])
  (H:=λs=>h++ [.emp 1,zw s.2.1 9 (jF (owG b k s.1)),s.2.2.1,s.2.2.2,.emp 0])
  (inv:=λs=>s.1<=b.length∧qz [s.2.2.1] 0=true∧qz [s.2.2.2] 0=true) (m:=λs=>b.length-s.1) (0,1,.emp 0,.emp 0) ⟨nzl _,rfl,rfl⟩ (Wk.temps ?_) ?_
 ·(simp only[kq,owG,go_sem,qf,qc,qa,qe];try exact we)
 rintro⟨i,v,O1,O2⟩ ⟨i1,i2,i3⟩ K hK;simp only at i1 i2 i3 hK;have i2': ∀m,qz (O1::m) 0=true:=λ_=>i2
 have i3': ∀m,qz (O2::m) 0=true:=λ_=>i3
 have ol: ∀n,(owG b k n).length<=n:=by
  intro n
  induction n with
  |zero=>exact nlr _
  |succ n ih=>
   unfold owG;rw[lap];split
   ·simp only[lco,lnl];omega
   ·simp only[lnl];omega
 have hol:=ol i
 by_cases hi:i<b.length
 ·have k1:((i:Int)<b.length)=True:=wj;have hS:owG b k (i+1)=owG b k i++if (b.getD i default).unit=k then [(b.getD i default).text] else []:=rfl
  obtain⟨L,hL⟩:=wg (owG b k i)
  rw[<-hL]at hS hol ⊢;obtain⟨w,hw⟩:=wg (b.getD i default)
  have ew:=hw.symm;rw[ew]at hS;have eC:=jG L;have eTk:List.take L.length (jF L)=jF L:=ltl om
  by_cases g:w.unit=k
  ·have q1:(w.unit=k)=True:=eqt g;rw[ipo g]at hS;simp (disch:=omega) only[kq,wdC,k1,ew,i2',i3',q1,eC,eTk,Nat.mul_one,go_sem]
   repeat' first|with_reducible apply aiA|exact clz|fail
   have eA:jF L++ [AV.str w.text]=jF (L++ [w.text]):=by simp[jF]
   have eD:(AV.str w.text::List.drop 1 (zM [AV.str []] 1))= [AV.str w.text]:=rfl;rw[eA,eD];refine hK _ _ (i+1,v+1,.mem (qo (some O1)+1) 133 (wdC w),.mem (qo (some O2)+1) 9 [.str w.text]) ⟨hi,rfl,rfl⟩ (by simp only;omega) ?_;simp only[hS,wdC,lap,lco,lnl];refine Wk.temps ?_
   (simp only[kq,wdC,go_sem,qf,qc,qa,qe];try exact we)
  ·have q1:(w.unit=k)=False:=eqf g;rw[ine g,lan]at hS;simp (disch:=omega) only[kq,wdC,k1,ew,i2',i3',q1,go_sem]
   repeat' first|with_reducible apply aiA|exact clz|fail
   refine hK _ _ (i+1,v,.mem (qo (some O1)+1) 133 (wdC w),O2) ⟨hi,rfl,i3⟩ (by simp only;omega) ?_;simp only[hS,wdC];refine Wk.temps ?_
   (simp only[kq,wdC,go_sem,qf,qc,qa,qe];try exact we)
 have k1:((i:Int)<b.length)=False:=wl;obtain rfl:i=b.length:=by omega
 simp (disch:=omega) only[k1,go_sem]
 repeat' first|(apply qb;exact rvk;simp only[go_sem])
 exact qa0 (λ_=>rfl) rfl
end RC
end
section
open Go Go.Proofs AF
def qK:List Nat:= []
def qwX:C:=
 (vU [⟨some 2,none,.alloc 0 28 [i6 0],[]⟩] (vU [⟨some 3,none,.alloc 1 3 [i6 0],[]⟩,⟨none,none,.store 1,[.t 3,.c (i6 4096)]⟩] (vU [O1 8 (.mkfn (Fn.func 337) 0) 3,⟨some
 4,none,.alloc 2 30 [.nilfn],[]⟩,ST 1 4 8] ((vU [MV 9 0,O1 10 (.call 338 true) 9] (C.block 0 (C.range (.t 10) [11] (vY [⟨some 5,none,.alloc 3 386 [i6 0,.str [],i6 0,.nl,i6
 0,.bool false],[]⟩,ST 6 5 11]) (C.block 1 (vU [LD 12 4,O1 13 .callv 12,O1 14 (.un UnOp.not) 13,MV 15 14,v7 16 15 4 5,v8 17 15 16,vT 18 15 (.bin .geq) 17 (i6 16),vS 19 15 18,P1
 20 19 true (.fldA 0) 5,P1 21 19 true (.fldA 3) 20,P1 22 19 true (.load none) 21,P1 23 19 true .len 22,PC 24 19 true (.bin .gtr) 23 (i6 0),QF 25 15 false 19 24,PT 26 15 25] (vV
 26 (vX [⟨none,none,.store 1,[.t 2,.c (i6 4)]⟩]))))))).seq ((vU [MV 27 0,O1 28 (.call 338 true) 27] (C.block 2 (C.range (.t 28) [29] (vY [⟨some 6,none,.alloc 4 386 [i6 0,.str
 [],i6 0,.nl,i6 0,.bool false],[]⟩,ST 6 6 29]) (C.block 3 (vU [O1 30 (.load (some 6)) 6,O1 31 (.call 339 true) 30,MV 7 31] (vU [MV 32 7,vP 33 .neq 32 0] (vV 33 (vX [MV 34 7,ST 1
 2 34])))))))).seq ((vU [MV 35 0,O1 36 (.call 340 true) 35,O1 37 .slen 36,vP 38 .gtr 37 65536] (vV 38 (vX [⟨none,none,.store 1,[.t 2,.c (i6 4)]⟩]))).seq (vX [⟨none,none,.store
 1,[.t 2,.c (i6 0)]⟩])))))))
theorem qy0:qG Tryz.prog 283 39 5 [RV.cell 2 none] qwX:=fi Tryz.f283 [2,3,4,5,6] qK []
def qxa:C:=
 (vU [MC 1 (.bool false)] (vU [LD 2 0,vP 3 .sub 2 1,ST 1 0 3] (vX [LD 4 0,vP 5 .geq 4 0,MV 1 5])))
theorem qzg:qG Tryz.prog 337 6 0 [RV.tmp 1] qxa:=fi Tryz.f337 [] qK []
def qxb:C:=
 (vU [O1 1 (.box 0 232) 0,MC 2 .nilfn] (vX [O1 3 (.mkfn (Fn.func 372) 0) 1,MV 2 3]))
theorem qzh:qG Tryz.prog 338 4 1 [RV.tmp 2] qxb:=fi Tryz.f338 [1] qK []
def qxo:C:=
 (vU [O1 2 (.box 0 411) 0] (vU [⟨some 3,none,.alloc 1 412 [.nilfn],[]⟩] (vU [O2 4 (.mkfn (Fn.func 373) 0) 2 3,ST 1 3 4] (vY [LD 5 3,LD 6 1,ON 7 .callv [.t 5,.t 6,.c (i6 0)]]))))
theorem qzu:qG Tryz.prog 372 8 2 [] qxo:=fi Tryz.f372 [2,3] qK []
def qsG:C:=
 (vU [MC 6 (.bool false)] (vU [MC 7 (.bool false)] ((vU [MV 10 0,O1 11 .len 10,vO 12 0] (C.block 0 (vU [BI 13 .lss 12 11] ((vW 13 0).seq ((C.block 1 (vU [O2 14 (.idxA 4) 10 12,O1
 15 (.load (some 4)) 14,⟨some 9,none,.alloc 0 234 [i6 0,.str [],i6 0,.nl],[]⟩,ST 4 9 15] ((vU [LD 16 2,O1 17 (.load (some 4)) 9,MV 18 1,MV 19 7,⟨some 20,none,.build [i6 0,.str
 [],i6 0,.nl,i6 0,.bool false] [(0,4),(4,1),(5,1)],[.t 17,.t 18,.t 19]⟩,O2 21 .callv 16 20,O1 22 (.un UnOp.not) 21,MV 23 22,vS 24 23 1,vT 25 23 (.bin .leq) 24 (i6 16),vS 26 23
 25,P1 27 26 true (.load none) 3,P1 28 26 true (.fldA 3) 9,P1 29 26 true (.load none) 28,MG 30 26 true 1,PC 31 26 true (.bin .add) 30 (i6 1),PN 32 26 true .callv [.t 27,.t 29,.t
 31],P1 33 26 true (.un UnOp.not) 32,QF 34 23 false 26 33,PT 35 23 34] (vV 35 (vX [MC 6 (.bool false)]))).seq (vY [vN 36 0 9,LD 37 36,vP 38 .eql 37 1,MV 7 38])))).seq (vY [vP 39
 .add 12 1,MV 12 39])))).loop)).seq (vX [MC 6 (.bool true)]))))
theorem qrD:qG Tryz.prog 373 40 1 [RV.tmp 6] qsG:=fi Tryz.f373 [9] qK []
def qxc:C:=
 (vU [O1 1 (.box 0 386) 0,vO 2 0] (vU [vN 6 0 1,O1 7 (.load (some 4)) 6,⟨some 3,none,.alloc 1 234 [i6 0,.str [],i6 0,.nl],[]⟩,ST 4 3 7] ((vU [vN 8 0 3,LD 9 8,vP 10 .lss 9 1,MV 11
 10,v7 12 11 0 3,v8 13 11 12,vT 14 11 (.bin .gtr) 13 (i6 11),PT 15 11 14] (vV 15 (vX [vO 2 8]))).seq (vU [vN 16 0 3,LD 17 16,O1 18 (.gix 4 12 4) 17,O1 19 (.load (some 4))
 18,⟨some 4,none,.alloc 2 414 [.str [],.bool false,.bool false,.bool false],[]⟩,ST 4 4 19] (vU [vN 20 0 3,LD 21 20,vP 22 .eql 21 6,MV 5 22] ((C.block 0 (vU [vN 24 1 4,LD 25
 24,O1 26 (.un UnOp.not) 25,MV 27 26,P1 28 27 true (.fldA 1) 3,P1 29 27 true (.load none) 28,PC 30 27 true (.bin .neq) 29 (.str []),PF 31 27 30,MV 32 31,v7 33 32 2 4,v8 34 32
 33,vQ 35 32 (.un UnOp.not) 34,vS 36 32 35,P1 37 36 true (.fldA 2) 3,P1 38 36 true (.load none) 37,PC 39 36 true (.bin .neq) 38 (i6 0),QF 40 32 false 36 39,PT 41 32 40,MV 42
 41,v7 43 42 3 4,v8 44 42 43,vQ 45 42 (.un UnOp.not) 44,vS 46 42 45,P1 47 46 true (.fldA 3) 3,P1 48 46 true (.load none) 47,P1 49 46 true .len 48,PC 50 46 true (.bin .gtr) 49
 (i6 0),QF 51 42 false 46 50,PT 52 42 51,MV 23 52] (C.cond (.t 23) (vX [vO 2 8]) (vU [vN 54 0 3,LD 55 54,vP 56 .eql 55 1,MV 57 56,P1 58 57 true (.fldA 1) 3,P1 59 57 true (.load
 none) 58,PC 60 57 true (.bin .eql) 59 (.str []),PF 61 57 60,MV 62 61,v7 63 62 3 4,v8 64 62 63,vS 65 62 64,P1 66 65 true (.fldA 3) 3,P1 67 65 true (.load none) 66,P1 68 65 true
 .len 67,PC 69 65 true (.bin .eql) 68 (i6 0),QF 70 62 false 65 69,PT 71 62 70,MV 53 71] (C.cond (.t 53) (vX [vO 2 5]) (vU [vN 73 0 3,LD 74 73,vP 75 .eql 74 1,MV 76 75,P1 77 76
 true (.fldA 1) 3,P1 78 76 true (.load none) 77,P1 79 76 true (.call 219 true) 78,PC 80 76 true (.bin .neq) 79 (i6 0),PF 81 76 80,MV 72 81] (C.cond (.t 72) (vX [vO 2 11]) ((vU
 [vN 83 0 3,LD 84 83,vP 85 .eql 84 10,MV 86 85,P1 87 86 true (.fldA 1) 3,P1 88 86 true (.load none) 87,P1 89 86 true (.call 145 true) 88,P1 90 86 true (.un UnOp.not) 89,PF 91 86
 90,MV 82 91] (C.cond (.t 82) C.skip (vY [vN 92 1 4,LD 93 92,MV 94 93,P1 95 94 true (.fldA 0) 3,P1 96 94 true (.load none) 95,PC 97 94 true (.bin .neq) 96 (i6 1),PF 98 94 97,MV
 99 98,P1 100 99 true (.fldA 0) 3,P1 101 99 true (.load none) 100,PC 102 99 true (.bin .neq) 101 (i6 10),PF 103 99 102,MV 104 103,P1 105 104 true (.fldA 1) 3,P1 106 104 true
 (.load none) 105,P1 107 104 true (.call 181 true) 106,P1 108 104 true (.un UnOp.not) 107,PF 109 104 108,MV 82 109]))).seq (C.cond (.t 82) (vX [vO 2 14]) ((vU [vN 111 2 4,LD 112
 111,MV 113 112,P1 114 113 true (.fldA 2) 3,P1 115 113 true (.load none) 114,PC 116 113 true (.bin .lss) 115 (i6 1),PF 117 113 116,MV 110 117] (C.cond (.t 110) C.skip (vU [MV
 118 5,MV 119 118,P1 120 119 true (.fldA 2) 3,P1 121 119 true (.load none) 120,PC 122 119 true (.bin .gtr) 121 (i6 64),PF 123 119 122,MV 110 123] (C.cond (.t 110) C.skip (vY [vN
 124 2 4,LD 125 124,MV 126 125,MG 127 126 true 5,P1 128 126 true (.un UnOp.not) 127,PF 129 126 128,MV 130 129,P1 131 130 true (.fldA 2) 3,P1 132 130 true (.load none) 131,PC 133
 130 true (.bin .gtr) 132 (i6 8),PF 134 130 133,MV 110 134]))))).seq (C.cond (.t 110) (vX [vO 2 2]) (vU [vN 136 0 3,LD 137 136,vP 138 .eql 137 1,MV 139 138,P1 140 139 true
 (.fldA 5) 1,P1 141 139 true (.load none) 140,PF 142 139 141,MV 135 142] (C.cond (.t 135) (vX [vO 2 10]) (vU [vN 144 0 3,LD 145 144,vP 146 .eql 145 4,MV 147 146,P1 148 147 true
 (.fldA 4) 1,P1 149 147 true (.load none) 148,PC 150 147 true (.bin .gtr) 149 (i6 0),PF 151 147 150,MV 143 151] (vV 143 (vX [vO 2 12])))))))))))))))).seq (vX [vO 2 0])))))))
theorem qzi:qG Tryz.prog 339 152 3 [RV.tmp 2] qxc:=fi Tryz.f339 [1,3,4] qK []
def qwZ:C:=
 (vU [O1 3 (.box 0 3) 1,vO 4 0,vO 5 0] ((vU [MV 8 0,O1 9 (.call 283 true) 8,vP 10 .neq 9 0] (vV 10 (vX [vO 4 0,vO 5 1]))).seq ((vU [LD 11 3,vP 12 .lss 11 1,MV 13 12,v8 14 13 3,vT
 15 13 (.bin .gtr) 14 (i6 11),PT 16 13 15] (vV 16 (vX [vO 4 0,vO 5 8]))).seq (vU [⟨some 6,none,.alloc 1 3 [i6 0],[]⟩,⟨none,none,.store 1,[.t 6,.c (i6 0)]⟩] ((vU [MV 17 0,O1 18
 (.call 338 true) 17] (C.block 0 (C.range (.t 18) [19] (vY [⟨some 7,none,.alloc 2 386 [i6 0,.str [],i6 0,.nl,i6 0,.bool false],[]⟩,ST 6 7 19]) (C.block 1 (vU [vN 20 0 7,vN 21 0
 20,LD 22 21,LD 23 3,BI 24 .eql 22 23] (vV 24 (vY [LD 25 6,vP 26 .add 25 1,ST 1 6 26]))))))).seq (vX [LD 27 6,MV 4 27,vO 5 0]))))))
theorem qy2:qG Tryz.prog 285 28 3 [RV.tmp 4,RV.tmp 5] qwZ:=fi Tryz.f285 [3,6,7] qK []
def qwY:C:=
 (vU [vO 2 0] ((vU [MV 6 0,O1 7 .len 6,vP 8 .gtr 7 64] (vV 8 (vX [vO 2 4]))).seq ((vU [MV 9 0,O1 10 .len 9,vO 11 0] (C.block 0 (vU [BI 12 .lss 11 10] ((vW 12 0).seq ((C.block 1
 (vU [O2 13 (.idxA 2) 9 11,O1 14 (.load (some 2)) 13,⟨some 4,none,.alloc 0 357 [.str [],.str []],[]⟩,ST 2 4 14] (vU [O1 15 (.load (some 2)) 4,O1 16 (.call 341 true) 15,MV 5 16]
 (vU [MV 17 5,vP 18 .neq 17 0] (vV 18 (vX [MV 19 5,MV 2 19])))))).seq (vY [vP 20 .add 11 1,MV 11 20])))).loop)).seq (vX [vO 2 0]))))
theorem qy1:qG Tryz.prog 284 21 1 [RV.tmp 2] qwY:=fi Tryz.f284 [4] qK []
def qxi:C:=
 (vU [MC 4 (.str []),vO 5 0] (vU [MV 9 0,MV 10 1,O2 11 (.call 378 true) 9 10,MV 8 11,O1 12 (.ext 0) 8,O1 13 (.ext 1) 8,MV 6 12,MV 7 13] ((vU [MV 14 7,vP 15 .neq 14 0] (vV 15 (vX
 [MV 16 7,MC 4 (.str []),MV 5 16]))).seq (vX [MV 17 6,MV 18 6,O1 19 .len 18,vP 20 .sub 19 1,O2 21 (.idxA 1) 17 20,LD 22 21,MV 4 22,vO 5 0]))))
theorem qzo:qG Tryz.prog 348 23 0 [RV.tmp 4,RV.tmp 5] qxi:=fi Tryz.f348 [] qK []
def qxs:C:=
 (vU [ON 4 (.nilo 0 1 9) [],vO 5 0] ((vU [MV 7 0,MV 8 1,O2 9 (.call 386 true) 7 8,MV 6 9] (vU [MV 10 6,vP 11 .neq 10 0] (vV 11 (vX [MV 12 6,ON 4 (.nilo 0 1 9) [],MV 5 12])))).seq
 (vX [MV 13 0,MV 14 1,O2 15 (.call 387 true) 13 14,O1 16 (.ext 0) 15,O1 17 (.ext 1) 15,MV 4 16,MV 5 17])))
theorem qzy:qG Tryz.prog 378 18 1 [RV.tmp 4,RV.tmp 5] qxs:=fi Tryz.f378 [4] qK []
def qxw:C:=
 (vU [ON 4 (.nilo 0 1 9) [],vO 5 0] (vU [MV 9 1,⟨some 10,none,.bslc 1 1 1 9 [.str []] [(0,1)],[.t 9]⟩,MV 6 10] (C.block 0 (C.block 1 (vU [MV 12 0,MV 13 6,MV 14 6,O1 15 .len 14,vP
 16 .sub 15 1,O2 17 (.idxA 1) 13 16,LD 18 17,O2 19 (.call 390 true) 12 18,MV 11 19,O1 20 (.ext 0) 11,O1 21 (.ext 1) 11,MV 7 20,MV 8 21] ((vU [MV 22 8,O1 23 (.un UnOp.not) 22]
 (vV 23 (vX [MV 24 6,MV 4 24,vO 5 0]))).seq ((vU [MV 25 6,O1 26 .len 25,vP 27 .eql 26 4096] (vV 27 (vX [ON 4 (.nilo 0 1 9) [],vO 5 4]))).seq (vY [MV 28 6,MV 29 7,⟨some
 30,none,.bslc 2 1 1 9 [.str []] [(0,1)],[.t 29]⟩,O2 31 (.app 3 1 9 16) 28 30,MV 6 31]))))).loop)))
theorem qzC:qG Tryz.prog 387 32 4 [RV.tmp 4,RV.tmp 5] qxw:=fi Tryz.f387 [4,10,30,31] qK []
def qxv:C:=
 (vU [vO 4 0] ((C.block 0 (vU [MV 6 0,O1 7 (.call 284 true) 6,vP 8 .neq 7 0,MV 5 8] (C.cond (.t 5) (vX [vO 4 1]) (vU [MV 10 1,O1 11 .slen 10,vP 12 .gtr 11 64,MV 9 12] (C.cond (.t
 9) (vX [vO 4 4]) (vU [MV 14 1,O1 15 (.call 376 true) 14,O1 16 (.un UnOp.not) 15,MV 13 16] (vV 13 (vX [vO 4 11])))))))).seq (vX [vO 4 0])))
theorem qzB:qG Tryz.prog 386 17 0 [RV.tmp 4] qxv:=fi Tryz.f386 [] qK []
def qxq:C:=
 (vU [MC 2 (.bool false)] ((vU [MV 4 0,O1 5 .slen 4,vO 6 0] (C.block 0 (vU [BI 7 .lss 6 5] ((vW 7 0).seq ((C.block 1 (vU [MV 8 6,MV 3 8] (vU [MV 9 0,MV 10 3,O2 11 .sidx 9 10,O1
 12 (.call 220 true) 11] (C.block 2 ((vU [vP 14 .eql 12 1,MV 13 14] (C.cond (.t 13) C.skip (vU [vP 15 .eql 12 2,MV 13 15] (C.cond (.t 13) C.skip (vU [vP 16 .eql 12 3,MV 13 16]
 (C.cond (.t 13) C.skip (vY [vP 17 .eql 12 4,MV 13 17]))))))).seq (C.cond (.t 13) C.skip (vX [MC 2 (.bool false)]))))))).seq (vY [vP 18 .add 6 1,MV 6 18])))).loop)).seq (vX [MC
 2 (.bool true)])))
theorem qzw:qG Tryz.prog 376 19 0 [RV.tmp 2] qxq:=fi Tryz.f376 [] qK []
def qxx:C:=
 (vU [⟨some 4,none,.alloc 0 9 [.str []],[]⟩,⟨some 5,none,.alloc 1 4 [.bool false],[]⟩] ((vU [MV 7 0,MV 8 1,O2 9 (.call 391 true) 7 8] (C.block 0 (C.range (.t 9) [10] (vY [MV 6
 10]) (C.block 1 (vX [MV 11 6,ST 1 4 11,⟨none,none,.store 1,[.t 5,.c (.bool true)]⟩]))))).seq (vX [MV 12 1,ST 1 4 12,⟨none,none,.store 1,[.t 5,.c (.bool false)]⟩])))
theorem qzD:qG Tryz.prog 390 13 2 [RV.cell 4 none,RV.cell 5 none] qxx:=fi Tryz.f390 [4,5] qK []
def qxy:C:=
 (vU [O1 2 (.box 0 296) 0,O1 3 (.box 1 9) 1,MC 4 .nilfn] (vX [O2 5 (.mkfn (Fn.func 392) 0) 3 2,MV 4 5]))
theorem qzE:qG Tryz.prog 391 6 2 [RV.tmp 4] qxy:=fi Tryz.f391 [2,3] qK []
def qxz:C:=
 (vU [LD 9 1,O1 10 .slen 9,vO 11 0] (C.block 0 (vU [BI 12 .lss 11 10] ((vW 12 0).seq ((C.block 1 (vU [MV 13 11,MV 4 13] (vU [LD 14 2,O1 15 .len 14,vO 16 0] (C.block 2 (vU [BI 17
 .lss 16 15] ((vW 17 2).seq ((C.block 3 (vU [O2 18 (.idxA 2) 14 16,O1 19 (.load (some 2)) 18,⟨some 6,none,.alloc 0 357 [.str [],.str []],[]⟩,ST 2 6 19] (vU [LD 21 1,MV 22 4,O2
 23 (.sslc true false) 21 22,vN 24 0 6,LD 25 24,O2 26 (.call 264 true) 23 25,MV 20 26,O1 27 (.ext 0) 20,O1 28 (.ext 1) 20,MV 7 27,MV 8 28] (vU [MV 29 8,MV 30 29,MG 31 30 true
 0,P1 32 30 true (.load none) 1,MG 33 30 true 4,P2 34 30 true (.sslc false true) 32 33,P1 35 30 true (.fldA 1) 6,P1 36 30 true (.load none) 35,P2 37 30 true (.bin .add) 34 36,MG
 38 30 true 7,P2 39 30 true (.bin .add) 37 38,P2 40 30 true .callv 31 39,P1 41 30 true (.un UnOp.not) 40,PF 42 30 41] (vV 42 C.ret))))).seq (vY [vP 43 .add 16 1,MV 16
 43])))).loop)))).seq (vY [vP 44 .add 11 1,MV 11 44])))).loop))
theorem qzF:qG Tryz.prog 392 45 1 [] qxz:=fi Tryz.f392 [6] qK []
def qw0:C:=
 (vU [O1 2 (.box 0 117) 0,O1 3 (.box 1 232) 1,MC 4 .nilfn] (vX [O2 5 (.mkfn (Fn.func 342) 0) 2 3,MV 4 5]))
theorem qy3:qG Tryz.prog 286 6 2 [RV.tmp 4] qw0:=fi Tryz.f286 [2,3] qK []
def qxe:C:=
 (vU [O1 3 (.box 0 389) 0] (vU [O1 6 (.load (some 2)) 1,⟨some 7,none,.build [i6 0,.int .u8 0,i6 0,.str [],i6 0,.bool false,.str []] [(3,2)],[.t 6]⟩,⟨some 4,none,.alloc 1 348 [i6
 0,.int .u8 0,i6 0,.str [],i6 0,.bool false,.str []],[]⟩,ST 7 4 7] (vU [⟨some 5,none,.alloc 2 390 [.nilfn],[]⟩] (vU [ON 8 (.mkfn (Fn.func 343) 0) [.t 4,.t 3,.t 5],ST 1 5 8] (vY
 [LD 9 5,LD 10 2,O2 11 .callv 9 10])))))
theorem qzk:qG Tryz.prog 342 12 3 [] qxe:=fi Tryz.f342 [3,4,5] qK []
@[go_sem]def vd:DT:= DT.one ⟨some 22,none,.fldA 2,[.t 1]⟩ (DT.one ⟨none,none,.store 1,[.t 22,.t 20]⟩ DT.nil)
@[go_sem]def vf:DT:= DT.one ⟨some 49,none,.fldA 6,[.t 1]⟩ (DT.one ⟨none,none,.store 1,[.t 49,.t 47]⟩ DT.nil)
def qxf:C:=
 (vU [MC 5 (.bool false)] ((vU [MV 11 0,O1 12 .len 11,vO 13 0] (C.block 0 (vU [BI 14 .lss 13 12] ((vW 14 0).seq ((C.block 1 (vU [O2 15 (.idxA 4) 11 13,O1 16 (.load (some 4))
 15,⟨some 7,none,.alloc 0 234 [i6 0,.str [],i6 0,.nl],[]⟩,ST 4 7 16] ((C.draw (DT.one ⟨some 17,none,.fldA 0,[.t 7]⟩ (DT.one ⟨some 18,none,.load none,[.t 17]⟩ (DT.one ⟨some
 21,none,.fldA 0,[.t 1]⟩ ((DT.one ⟨some 19,none,.fldA 2,[.t 7]⟩ ((DT.one ⟨some 20,none,.load none,[.t 19]⟩ (DT.one ⟨none,none,.store 1,[.t 21,.t 18]⟩ vd)).two (DT.one
 ⟨none,none,.store 1,[.t 21,.t 18]⟩ (DT.one ⟨some 20,none,.load none,[.t 19]⟩ vd)))).two (DT.one ⟨none,none,.store 1,[.t 21,.t 18]⟩ (DT.one ⟨some 19,none,.fldA 2,[.t 7]⟩ (DT.one
 ⟨some 20,none,.load none,[.t 19]⟩ vd)))))))).seq (vU [vN 23 0 7,LD 24 23] (C.block 2 (vU [vP 53 .eql 24 2,MV 52 53] (C.cond (.t 52) (vY [vN 54 3 1,vN 55 1 54,LD 56 55,vP 57
 .add 56 1,vN 58 3 1,vN 59 1 58,ST 1 59 57]) (vU [vP 61 .eql 24 3,MV 60 61] (C.cond (.t 60) (vY [vN 62 1 7,LD 63 62,⟨some 64,none,.build [.str [],i6 0] [(0,1)],[.t 63]⟩,vN 65 3
 1,ST 2 65 64]) (vU [vP 67 .eql 24 1,MV 66 67] (C.cond (.t 66) (vU [vN 68 1 7,LD 69 68,O1 70 .slen 69,vO 71 0] (C.block 3 (vU [BI 72 .lss 71 70] ((vW 72 3).seq ((C.block 4 (vU
 [MV 73 71,MV 8 73] (vU [vN 74 1 7,LD 75 74,MV 76 8,O2 77 .sidx 75 76,vN 78 1 1,ST 1 78 77] (vU [LD 79 2,O1 80 (.load (some 7)) 1,O2 81 .callv 79 80,O1 82 (.un UnOp.not) 81] (vV
 82 (vX [MC 5 (.bool false)])))))).seq (vY [vP 83 .add 71 1,MV 71 83])))).loop)) ((vU [vP 85 .eql 24 6,MV 84 85] (C.cond (.t 84) C.skip (vU [vP 86 .eql 24 5,MV 84 86] (C.cond
 (.t 84) C.skip (vY [vP 87 .eql 24 4,MV 84 87]))))).seq (C.cond (.t 84) (vU [LD 88 2,O1 89 (.load (some 7)) 1,O2 90 .callv 88 89,O1 91 (.un UnOp.not) 90] (vV 91 (vX [MC 5 (.bool
 false)]))) (vU [O1 25 (.load (some 7)) 1,⟨some 9,none,.alloc 1 348 [i6 0,.int .u8 0,i6 0,.str [],i6 0,.bool false,.str []],[]⟩,ST 7 9 25] (vU [vN 26 5 1,LD 27 26,MV 28 27,v7 29
 28 0 7,v8 30 28 29,vT 31 28 (.bin .eql) 30 (i6 7),PT 32 28 31,vN 33 5 1,ST 1 33 32] ((vU [vN 34 0 7,LD 35 34,vP 36 .eql 35 11] (vV 36 (vY [vN 37 1 7,LD 38 37,vN 39 6 1,ST 1 39
 38]))).seq (vU [LD 40 3,vN 41 3 7,LD 42 41,O2 43 .callv 40 42,MV 10 43] ((C.draw (DT.one ⟨some 44,none,.fldA 5,[.t 9]⟩ (DT.one ⟨some 45,none,.load none,[.t 44]⟩ (DT.one ⟨some
 48,none,.fldA 5,[.t 1]⟩ ((DT.one ⟨some 46,none,.fldA 6,[.t 9]⟩ ((DT.one ⟨some 47,none,.load none,[.t 46]⟩ (DT.one ⟨none,none,.store 1,[.t 48,.t 45]⟩ vf)).two (DT.one
 ⟨none,none,.store 1,[.t 48,.t 45]⟩ (DT.one ⟨some 47,none,.load none,[.t 46]⟩ vf)))).two (DT.one ⟨none,none,.store 1,[.t 48,.t 45]⟩ (DT.one ⟨some 46,none,.fldA 6,[.t 9]⟩ (DT.one
 ⟨some 47,none,.load none,[.t 46]⟩ vf)))))))).seq (vU [MV 50 10,O1 51 (.un UnOp.not) 50] (vV 51 (vX [MC 5 (.bool false)]))))))))))))))))))))).seq (vY [vP 92 .add 13 1,MV 13
 92])))).loop)).seq (vX [MC 5 (.bool true)])))
theorem qzl:qG Tryz.prog 343 93 2 [RV.tmp 5] qxf:=fi Tryz.f343 [7,9] qK []
def qxg:C:=
 (vU [MC 2 .nilp] (vX [MV 3 0,O1 4 .nilchk 3,vN 5 0 4,LD 6 5,MV 7 0,O1 8 .nilchk 7,vN 9 0 8,LD 10 9,O1 11 .len 10,vP 12 .sub 11 1,O2 13 (.idxA 6) 6 12,MV 2 13]))
theorem qzm:qG Tryz.prog 346 14 0 [RV.tmp 2] qxg:=fi Tryz.f346 [] qK []
def qsz:C:=
 (vU [O1 1 (.box 0 119) 0,MC 2 (.bool false)] (vX [vN 3 0 1,LD 4 3,O1 5 .slen 4,vP 6 .gtr 5 64,MV 2 6]))
theorem qrw:qG Tryz.prog 289 7 1 [RV.tmp 2] qsz:=fi Tryz.f289 [1] qK []
def qEI:C:=
 (vU [ON 2 (.nilo 0 1 9) []] (vU [ON 3 (.nilo 1 1 9) []] ((vU [MV 6 0,O1 7 .len 6,vO 8 0] (C.block 0 (vU [BI 9 .lss 8 7] ((vW 9 0).seq ((C.block 1 (vU [O2 10 (.idxA 6) 6 8,O1 11
 (.load (some 6)) 10,⟨some 5,none,.alloc 2 119 [.str [],.str [],.str [],i6 0,i6 0,.str []],[]⟩,ST 6 5 11] (vY [MV 12 3,vN 13 0 5,LD 14 13,⟨some 15,none,.bslc 3 1 1 9 [.str []]
 [(0,1)],[.t 14]⟩,O2 16 (.app 4 1 9 16) 12 15,MV 3 16]))).seq (vY [vP 17 .add 8 1,MV 8 17])))).loop)).seq (vX [MV 18 3,MV 2 18]))))
theorem qDi:qG Tryz.prog 64 19 5 [RV.tmp 2] qEI:=fi Tryz.f64 [2,3,5,15,16] qK []
def qwF:C:=
 (vU [vO 2 0] ((vU [MV 8 0,ON 9 (.call 295 true) [.t 8,.c (i6 16),.c (i6 4096)],MV 7 9,O1 10 (.ext 0) 7,O1 11 (.ext 1) 7,O1 12 (.ext 2) 7,MV 3 10,MV 4 11,MV 5 12] (vU [MV 13 5,O1
 14 (.un UnOp.not) 13] (vV 14 (vX [vO 2 4])))).seq ((vU [MV 15 0,OC 16 (.call 296 true) 15 (.bool false),MV 6 16] (vU [MV 17 6,vP 18 .neq 17 0] (vV 18 (vX [MV 19 6,MV 2
 19])))).seq ((vU [MV 20 0,O1 21 (.call 297 true) 20,O1 22 .slen 21,vP 23 .gtr 22 65536] (vV 23 (vX [vO 2 4]))).seq (vX [vO 2 0])))))
theorem qyG:qG Tryz.prog 232 24 0 [RV.tmp 2] qwF:=fi Tryz.f232 [] qK []
def qw4:C:=
 (vU [vO 6 0,vO 7 0,MC 8 (.bool false)] (vU [vO 9 0,vO 10 0] ((vU [vO 11 0] (C.block 0 ((v6 15 11 0 0).seq ((C.block 1 (vU [MV 21 9,vP 22 .add 21 1,MV 9 22] ((vU [MV 23 9,MV 24
 2,BI 25 .gtr 23 24] (vV 25 (vX [vO 6 0,vO 7 0,MC 8 (.bool false)]))).seq ((vU [MV 26 0,MV 27 11,O2 28 (.idxA 4) 26 27,vN 29 3 28,LD 30 29,O1 31 .len 30,vP 32 .eql 31 0] (vV 32
 (C.exit 1))).seq ((vU [MV 33 1,vP 34 .eql 33 0] (vV 34 (vX [vO 6 0,vO 7 0,MC 8 (.bool false)]))).seq (vU [MV 36 0,MV 37 11,O2 38 (.idxA 4) 36 37,vN 39 3 38,LD 40 39,MV 41 1,vP
 42 .sub 41 1,MV 43 2,MV 44 9,BI 45 .sub 43 44,ON 46 (.call 295 true) [.t 40,.t 42,.t 45],MV 35 46,O1 47 (.ext 0) 35,O1 48 (.ext 1) 35,O1 49 (.ext 2) 35,MV 12 47,MV 13 48,MV 14
 49] ((vU [MV 50 14,O1 51 (.un UnOp.not) 50] (vV 51 (vX [vO 6 0,vO 7 0,MC 8 (.bool false)]))).seq (vU [MV 52 9,MV 53 12,BI 54 .add 52 53,MV 9 54] (vY [MV 55 10,MV 56 13,vP 57
 .add 56 1,O2 58 (.mm true) 55 57,MV 10 58]))))))))).seq (vZ 19 11))).loop)).seq (vX [MV 59 9,MV 60 10,MV 6 59,MV 7 60,MC 8 (.bool true)]))))
theorem qy8:qG Tryz.prog 295 61 0 [RV.tmp 6,RV.tmp 7,RV.tmp 8] qw4:=fi Tryz.f295 [] qK []
def qsC:C:=
 (vU [vO 4 0] ((vU [vO 5 0] (C.block 0 ((v6 8 5 0 0).seq ((C.block 1 ((vU [MV 14 0,MV 15 5,O2 16 (.idxA 4) 14 15,O1 17 (.load (some 4)) 16,MV 18 5,vP 19 .gtr 18 0,MV 20 19,MG 21
 20 true 0,MG 22 20 true 5,PC 23 20 true (.bin .sub) 22 (i6 1),P2 24 20 true (.idxA 4) 21 23,P1 25 20 true (.fldA 0) 24,P1 26 20 true (.load none) 25,PC 27 20 true (.bin .eql)
 26 (i6 1),PF 28 20 27,MV 29 1,ON 30 (.call 349 true) [.t 17,.t 28,.t 29],MV 6 30] (vU [MV 31 6,vP 32 .neq 31 0] (vV 32 (vX [MV 33 6,MV 4 33])))).seq (vU [MV 34 0,MV 35 5,O2 36
 (.idxA 4) 34 35,vN 37 3 36,LD 38 37,OC 39 (.call 296 true) 38 (.bool true),MV 7 39] (vU [MV 40 7,vP 41 .neq 40 0] (vV 41 (vX [MV 42 7,MV 4 42])))))).seq (vZ 12 5))).loop)).seq
 (vX [vO 4 0])))
theorem qrz:qG Tryz.prog 296 43 0 [RV.tmp 4] qsC:=fi Tryz.f296 [] qK []
def qxj:C:=
 (vU [O1 3 (.box 0 234) 0,vO 6 0] ((vU [vN 7 0 3,LD 8 7,vP 9 .lss 8 1,MV 10 9,v7 11 10 0 3,v8 12 10 11,vT 13 10 (.bin .gtr) 12 (i6 11),PT 14 10 13,MV 15 14,v7 16 15 1 3,v8 17 15
 16,vT 18 15 (.bin .neq) 17 (.str []),vS 19 15 18,P1 20 19 true (.fldA 0) 3,P1 21 19 true (.load none) 20,P1 22 19 true (.call 351 true) 21,P1 23 19 true (.un UnOp.not) 22,QF 24
 15 false 19 23,PT 25 15 24,MV 26 25,v7 27 26 2 3,v8 28 26 27,vT 29 26 (.bin .neq) 28 (i6 0),vS 30 26 29,P1 31 30 true (.fldA 0) 3,P1 32 30 true (.load none) 31,P1 33 30 true
 (.call 352 true) 32,P1 34 30 true (.un UnOp.not) 33,QF 35 26 false 30 34,PT 36 26 35,MV 37 36,v7 38 37 3 3,v8 39 37 38,vQ 40 37 .len 39,vT 41 37 (.bin .gtr) 40 (i6 0),vS 42 37
 41,P1 43 42 true (.fldA 0) 3,P1 44 42 true (.load none) 43,P1 45 42 true (.call 353 true) 44,P1 46 42 true (.un UnOp.not) 45,QF 47 37 false 42 46,PT 48 37 47] (vV 48 (vX [vO 6
 8]))).seq ((vU [vN 49 0 3,LD 50 49,vP 51 .eql 50 1,MV 52 51,P1 53 52 true (.fldA 1) 3,P1 54 52 true (.load none) 53,PC 55 52 true (.bin .eql) 54 (.str []),PF 56 52 55,MV 57
 56,v7 58 57 0 3,v8 59 57 58,vQ 60 57 (.call 353 true) 59,vS 61 57 60,P1 62 61 true (.fldA 3) 3,P1 63 61 true (.load none) 62,P1 64 61 true .len 63,PC 65 61 true (.bin .eql) 64
 (i6 0),QF 66 57 false 61 65,PT 67 57 66] (vV 67 (vX [vO 6 5]))).seq ((vU [vN 68 0 3,LD 69 68] (C.block 0 (vU [vP 71 .eql 69 1,MV 70 71] (C.cond (.t 70) ((vU [vN 72 1 3,LD 73
 72,O1 74 (.call 162 true) 73,vP 75 .neq 74 0] (vV 75 (vX [vO 6 11]))).seq (vU [MV 76 1] (vV 76 (vX [vO 6 10])))) ((vU [vP 78 .eql 69 3,MV 77 78] (C.cond (.t 77) C.skip (vU [vP
 79 .eql 69 4,MV 77 79] (C.cond (.t 77) C.skip (vY [vP 80 .eql 69 11,MV 77 80]))))).seq (C.cond (.t 77) ((vU [vN 81 1 3,LD 82 81,O1 83 (.call 136 true) 82,O1 84 (.un UnOp.not)
 83] (vV 84 (vX [vO 6 14]))).seq (vU [MV 85 2,MV 86 85,P1 87 86 true (.fldA 0) 3,P1 88 86 true (.load none) 87,PC 89 86 true (.bin .eql) 88 (i6 4),PF 90 86 89] (vV 90 (vX [vO 6
 12])))) (vU [vP 92 .eql 69 10,MV 91 92] (C.cond (.t 91) (vU [vN 93 1 3,LD 94 93,O1 95 (.call 89 true) 94,O1 96 (.un UnOp.not) 95] (vV 96 (vX [vO 6 14]))) (vU [vP 98 .eql 69
 6,MV 97 98] (C.cond (.t 97) (vU [vN 99 2 3,LD 100 99,vP 101 .lss 100 1,MV 102 101,v7 103 102 2 3,v8 104 102 103,vT 105 102 (.bin .gtr) 104 (i6 64),PT 106 102 105] (vV 106 (vX
 [vO 6 2]))) ((vU [vP 108 .eql 69 8,MV 107 108] (C.cond (.t 107) C.skip (vY [vP 109 .eql 69 9,MV 107 109]))).seq (vV 107 (vU [vN 110 2 3,LD 111 110,vP 112 .lss 111 1,MV 113
 112,v7 114 113 2 3,v8 115 113 114,vT 116 113 (.bin .gtr) 115 (i6 8),PT 117 113 116] (vV 117 (vX [vO 6 2]))))))))))))))).seq (vX [vO 6 0])))))
theorem qzp:qG Tryz.prog 349 118 1 [RV.tmp 6] qxj:=fi Tryz.f349 [3] qK []
def qxk:C:=
 (vU [MC 2 (.bool false)] (vX [MV 3 0,vP 4 .eql 3 1,MV 5 4,vS 6 5 0,vT 7 5 (.bin .eql) 6 (i6 3),PT 8 5 7,MV 9 8,vS 10 9 0,vT 11 9 (.bin .eql) 10 (i6 4),PT 12 9 11,MV 13 12,vS 14
 13 0,vT 15 13 (.bin .eql) 14 (i6 10),PT 16 13 15,MV 17 16,vS 18 17 0,vT 19 17 (.bin .eql) 18 (i6 11),PT 20 17 19,MV 2 20]))
theorem qzq:qG Tryz.prog 351 21 0 [RV.tmp 2] qxk:=fi Tryz.f351 [] qK []
def qxl:C:=
 (vU [MC 2 (.bool false)] (vX [MV 3 0,vP 4 .eql 3 6,MV 5 4,vS 6 5 0,vT 7 5 (.bin .eql) 6 (i6 8),PT 8 5 7,MV 9 8,vS 10 9 0,vT 11 9 (.bin .eql) 10 (i6 9),PT 12 9 11,MV 2 12]))
theorem qzr:qG Tryz.prog 352 13 0 [RV.tmp 2] qxl:=fi Tryz.f352 [] qK []
def qxm:C:=
 (vU [MC 2 (.bool false)] (vX [MV 3 0,vP 4 .geq 3 7,MV 5 4,MG 6 5 true 0,PC 7 5 true (.bin .leq) 6 (i6 11),PF 8 5 7,MV 2 8]))
theorem qzs:qG Tryz.prog 353 9 0 [RV.tmp 2] qxm:=fi Tryz.f353 [] qK []
def qw5:C:=
 (vU [MC 2 (.str [])] (vU [MC 3 (.str [])] ((vU [vO 4 0] (C.block 0 ((v6 7 4 0 0).seq ((C.block 1 (vU [MV 13 0,MV 14 4,O2 15 (.idxA 4) 13 14,O1 16 (.load (some 4)) 15,⟨some
 5,none,.alloc 0 234 [i6 0,.str [],i6 0,.nl],[]⟩,ST 4 5 16] ((vU [vN 17 0 5,LD 18 17,vP 19 .eql 18 1] (vV 19 (vU [MV 20 3,vN 21 1 5,LD 22 21,BI 23 .add 20 22,MV 3 23] (C.exit
 1)))).seq (vU [vN 24 0 5,LD 25 24,O1 26 (.call 350 true) 25,ON 27 (.bin .add) [.c (.str [60]),.t 26],MV 6 27] ((vU [vN 28 0 5,LD 29 28,O1 30 (.call 351 true) 29] (vV 30 (vY [MV
 31 6,BC 32 .add 31 (.str [32]),vN 33 1 5,LD 34 33,BI 35 .add 32 34,MV 6 35]))).seq ((vU [vN 36 0 5,LD 37 36,O1 38 (.call 352 true) 37] (vV 38 (vY [MV 39 6,BC 40 .add 39 (.str
 [32]),vN 41 2 5,LD 42 41,O1 43 (.call 116 true) 42,BI 44 .add 40 43,MV 6 44]))).seq ((vU [vN 45 0 5,LD 46 45,O1 47 (.call 353 true) 46,O1 48 (.un UnOp.not) 47] (vV 48 (vU [MV
 49 3,MV 50 6,BI 51 .add 49 50,BC 52 .add 51 (.str [47,62]),MV 3 52] (C.exit 1)))).seq (vY [MV 53 3,MV 54 6,BI 55 .add 53 54,BC 56 .add 55 (.str [62]),vN 57 3 5,LD 58 57,O1 59
 (.call 297 true) 58,BI 60 .add 56 59,BC 61 .add 60 (.str [60,47]),vN 62 0 5,LD 63 62,O1 64 (.call 350 true) 63,BI 65 .add 61 64,BC 66 .add 65 (.str [62]),MV 3 66])))))))).seq
 (vZ 11 4))).loop)).seq (vX [MV 67 3,MV 2 67]))))
theorem qy9:qG Tryz.prog 297 68 1 [RV.tmp 2] qw5:=fi Tryz.f297 [5] qK []
def qwG:C:=
 (vU [vO 2 0] ((vU [MV 6 0,O1 7 .len 6,vP 8 .gtr 7 64] (vV 8 (vX [vO 2 4]))).seq ((vU [vO 3 0] (C.block 0 ((v6 9 3 0 0).seq ((C.block 1 (vU [MV 15 0,MV 16 3,O2 17 (.idxA 2) 15
 16,vN 18 0 17,LD 19 18,MV 20 0,MV 21 3,O2 22 (.idxA 2) 20 21,vN 23 1 22,LD 24 23,MV 4 19,MV 5 24] ((vU [MV 25 4,BC 26 .eql 25 (.str []),MV 27 26,vS 28 27 5,vT 29 27 (.bin .eql)
 28 (.str []),PT 30 27 29] (vV 30 (vX [vO 2 5]))).seq ((vU [MV 31 4,O1 32 .slen 31,vP 33 .gtr 32 64,MV 34 33,vS 35 34 5,vQ 36 34 .slen 35,vT 37 34 (.bin .gtr) 36 (i6 64),PT 38
 34 37] (vV 38 (vX [vO 2 4]))).seq ((vU [MV 39 4,O1 40 (.call 298 true) 39,O1 41 (.un UnOp.not) 40,MV 42 41,vS 43 42 5,vQ 44 42 (.call 298 true) 43,vQ 45 42 (.un UnOp.not) 44,PT
 46 42 45] (vV 46 (vX [vO 2 11]))).seq (vU [MV 47 5,O1 48 .slen 47,MV 49 4,O1 50 .slen 49,BI 51 .gtr 48 50,MV 52 51,vS 53 52 5,vQ 54 52 .slen 53,vS 55 52 4,vQ 56 52 .slen 55,vR
 57 52 (.bin .eql) 54 56,vS 58 52 57,MG 59 58 true 5,MG 60 58 true 4,P2 61 58 true (.bin .geq) 59 60,QF 62 52 false 58 61,PT 63 52 62] (vV 63 (vX [vO 2 24])))))))).seq (vZ 13
 3))).loop)).seq (vX [vO 2 0]))))
theorem qyH:qG Tryz.prog 233 64 0 [RV.tmp 2] qwG:=fi Tryz.f233 [] qK []
def qw7:C:=
 (vU [MC 4 (.str []),vO 5 0] (vU [MV 9 0,MV 10 1,O2 11 (.call 354 true) 9 10,MV 8 11,O1 12 (.ext 0) 8,O1 13 (.ext 1) 8,MV 6 12,MV 7 13] ((vU [MV 14 7,vP 15 .neq 14 0] (vV 15 (vX
 [MV 16 7,MC 4 (.str []),MV 5 16]))).seq (vX [MV 17 6,MV 18 6,O1 19 .len 18,vP 20 .sub 19 1,O2 21 (.idxA 1) 17 20,LD 22 21,MV 4 22,vO 5 0]))))
theorem qzb:qG Tryz.prog 301 23 0 [RV.tmp 4,RV.tmp 5] qw7:=fi Tryz.f301 [] qK []
def qxn:C:=
 (vU [ON 4 (.nilo 0 1 9) [],vO 5 0] ((vU [MV 10 0,MV 11 1,O2 12 (.call 379 true) 10 11,MV 6 12] (vU [MV 13 6,vP 14 .neq 13 0] (vV 14 (vX [MV 15 6,ON 4 (.nilo 0 1 9) [],MV 5
 15])))).seq (vU [MV 16 1,⟨some 17,none,.bslc 1 1 1 9 [.str []] [(0,1)],[.t 16]⟩,MV 7 17] (C.block 0 (C.block 1 (vU [MV 19 0,MV 20 1,O2 21 (.call 380 true) 19 20,MV 18 21,O1 22
 (.ext 0) 18,O1 23 (.ext 1) 18,MV 8 22,MV 9 23] ((vU [MV 24 9,O1 25 (.un UnOp.not) 24] (vV 25 (vX [MV 26 7,MV 4 26,vO 5 0]))).seq ((vU [MV 27 7,O1 28 .len 27,vP 29 .eql 28 4096]
 (vV 29 (vX [ON 4 (.nilo 0 1 9) [],vO 5 4]))).seq (vU [MV 30 7,MV 31 8,⟨some 32,none,.bslc 2 1 1 9 [.str []] [(0,1)],[.t 31]⟩,O2 33 (.app 3 1 9 16) 30 32,MV 7 33] (vY [MV 34
 8,MV 1 34])))))).loop))))
theorem qzt:qG Tryz.prog 354 35 4 [RV.tmp 4,RV.tmp 5] qxn:=fi Tryz.f354 [4,17,32,33] qK []
def qxt:C:=
 (vU [vO 4 0] ((vU [MV 5 0,O1 6 (.call 233 true) 5,vP 7 .neq 6 0] (vV 7 (vX [vO 4 1]))).seq ((vU [MV 8 1,O1 9 .slen 8,vP 10 .gtr 9 64] (vV 10 (vX [vO 4 4]))).seq ((vU [MV 11 1,O1
 12 (.call 298 true) 11,O1 13 (.un UnOp.not) 12] (vV 13 (vX [vO 4 11]))).seq (vX [vO 4 0])))))
theorem qzz:qG Tryz.prog 379 14 0 [RV.tmp 4] qxt:=fi Tryz.f379 [] qK []
def qw6:C:=
 (vU [MC 2 (.bool false)] ((vU [vO 3 0] (C.block 0 ((vU [MV 5 3,MV 6 0,O1 7 .slen 6,BI 8 .lss 5 7] (vW 8 0)).seq ((C.block 1 (vU [MV 11 0,MV 12 3,O2 13 .sidx 11 12,O1 14 (.call
 163 true) 13,MV 4 14] (vU [MV 15 4,vP 16 .neq 15 1,MV 17 16,MG 18 17 true 4,PC 19 17 true (.bin .neq) 18 (i6 2),PF 20 17 19,MV 21 20,MG 22 21 true 4,PC 23 21 true (.bin .neq)
 22 (i6 3),PF 24 21 23,MV 25 24,MG 26 25 true 4,PC 27 25 true (.bin .neq) 26 (i6 4),PF 28 25 27] (vV 28 (vX [MC 2 (.bool false)]))))).seq (vZ 9 3))).loop)).seq (vX [MC 2 (.bool
 true)])))
theorem qza:qG Tryz.prog 298 29 0 [RV.tmp 2] qw6:=fi Tryz.f298 [] qK []
def qxu:C:=
 (vU [MC 4 (.str []),MC 5 (.bool false)] ((vU [vO 6 0] (C.block 0 ((vU [MV 8 6,MV 9 1,O1 10 .slen 9,BI 11 .lss 8 10] (vW 11 0)).seq ((C.block 1 (vU [vO 7 0] (C.block 2 ((v6 14 7
 0 2).seq ((C.block 3 (vU [MV 20 1,MV 21 0,MV 22 7,O2 23 (.idxA 2) 21 22,vN 24 0 23,LD 25 24,MV 26 6,ON 27 (.call 388 true) [.t 20,.t 25,.t 26]] (vV 27 (vX [MV 28 0,MV 29 7,O2
 30 (.idxA 2) 28 29,O1 31 (.load (some 2)) 30,MV 32 1,MV 33 6,ON 34 (.call 389 true) [.t 31,.t 32,.t 33],MV 4 34,MC 5 (.bool true)])))).seq (vZ 18 7))).loop))).seq (vZ 12
 6))).loop)).seq (vX [MV 35 1,MV 4 35,MC 5 (.bool false)])))
theorem qzA:qG Tryz.prog 380 36 0 [RV.tmp 4,RV.tmp 5] qxu:=fi Tryz.f380 [] qK []
def qwn:C:=
 (vU [O1 3 (.box 0 117) 0,ON 6 (.nilo 1 6 119) [],vO 7 0] ((vU [MV 13 1,O1 14 (.call 232 true) 13,vP 15 .neq 14 0,MV 16 15,vS 17 16 2,vQ 18 16 (.call 233 true) 17,vT 19 16 (.bin
 .neq) 18 (i6 0),PT 20 16 19] (vV 20 (vX [ON 6 (.nilo 1 6 119) [],vO 7 1]))).seq ((vU [vN 21 1 3,LD 22 21,vP 23 .lss 22 0,MV 24 23,v7 25 24 1 3,v8 26 24 25,vT 27 24 (.bin .gtr)
 26 (i6 4096),PT 28 24 27] (vV 28 (vX [ON 6 (.nilo 1 6 119) [],vO 7 2]))).seq ((vU [vN 29 0 3,LD 30 29,O1 31 (.call 214 true) 30,O1 32 (.un UnOp.not) 31] (vV 32 (vX [ON 6 (.nilo
 1 6 119) [],vO 7 14]))).seq (vU [O1 34 (.load (some 2)) 3,MV 35 1,ON 36 (.call 234 true) [.t 34,.t 35,.c (.bool false),.c (.str [])],MV 33 36,O1 37 (.ext 0) 33,O1 38 (.ext 1)
 33,O1 39 (.ext 2) 33,⟨some 9,none,.alloc 2 117 [.str [],i6 0],[]⟩,MV 8 37,ST 2 9 38,MV 10 39] ((vU [MV 40 10] (vV 40 (vX [ON 6 (.nilo 1 6 119) [],vO 7 13]))).seq (vU [MV 41
 8,O1 42 (.call 235 true) 41,MV 11 42] ((vU [MV 43 11,O1 44 (.call 236 true) 43,MV 12 44] (vU [MV 45 12,vP 46 .neq 45 0] (vV 46 (vX [MV 47 12,ON 6 (.nilo 1 6 119) [],MV 7
 47])))).seq (vX [MV 48 2,MV 49 11,O2 50 (.call 237 true) 48 49,O1 51 (.ext 0) 50,O1 52 (.ext 1) 50,MV 6 51,MV 7 52])))))))))
theorem qyn:qG Tryz.prog 161 53 3 [RV.tmp 6,RV.tmp 7] qwn:=fi Tryz.f161 [3,6,9] qK []
def qwH:C:=
 (vU [O1 4 (.box 0 117) 0,ON 8 (.nilo 1 7 359) [],⟨some 9,none,.alloc 2 117 [.str [],i6 0],[]⟩,MC 10 (.bool false)] (vU [ON 11 (.nilo 3 7 359) []] (vU [MC 12 (.bool false)] ((vU
 [vO 13 0] (C.block 0 ((v6 20 13 1 0).seq ((C.block 1 (vU [MV 26 1,MV 27 13,O2 28 (.idxA 4) 26 27,O1 29 (.load (some 4)) 28,⟨some 14,none,.alloc 4 234 [i6 0,.str [],i6
 0,.nl],[]⟩,ST 4 14 29] (vU [vN 30 0 14,LD 31 30] (C.block 2 (vU [vP 72 .eql 31 1,MV 71 72] (C.cond (.t 71) (vU [vO 15 0] (C.block 3 ((vU [MV 73 15,vN 74 1 14,LD 75 74,O1 76
 .slen 75,BI 77 .lss 73 76] (vW 77 3)).seq ((C.block 4 (vY [MV 80 11,vN 81 1 14,LD 82 81,MV 83 15,O2 84 .sidx 82 83,MV 85 2,MV 86 3,O1 87 (.load (some 2)) 4,⟨some 88,none,.build
 [.int .u8 0,i6 0,.bool false,.bool false,.str [],.str [],i6 0] [(0,1),(3,1),(4,1),(5,2)],[.t 84,.t 85,.t 86,.t 87]⟩,⟨some 89,none,.bslc 5 7 1 359 [.int .u8 0,i6 0,.bool
 false,.bool false,.str [],.str [],i6 0] [(0,7)],[.t 88]⟩,O2 90 (.app 6 7 359 64) 80 89,MV 11 90])).seq (vZ 78 15))).loop)) (vU [vP 92 .eql 31 6,MV 91 92] (C.cond (.t 91) (vY
 [MV 93 11,vN 94 2 14,LD 95 94,MV 96 2,MV 97 3,O1 98 (.load (some 2)) 4,⟨some 99,none,.build [.int .u8 0,i6 0,.bool false,.bool false,.str [],.str [],i6 0]
 [(1,1),(3,1),(4,1),(5,2)],[.t 95,.t 96,.t 97,.t 98]⟩,⟨some 100,none,.bslc 7 7 1 359 [.int .u8 0,i6 0,.bool false,.bool false,.str [],.str [],i6 0] [(0,7)],[.t 99]⟩,O2 101 (.app
 8 7 359 64) 93 100,MV 11 101]) (vU [vP 103 .eql 31 2,MV 102 103] (C.cond (.t 102) (vY [vN 104 1 4,LD 105 104,vP 106 .add 105 1,vN 107 1 4,ST 1 107 106]) (vU [vP 109 .eql 31
 3,MV 108 109] (C.cond (.t 108) (vY [vN 110 1 14,LD 111 110,⟨some 112,none,.build [.str [],i6 0] [(0,1)],[.t 111]⟩,ST 2 4 112]) ((vU [vP 114 .eql 31 5,MV 113 114] (C.cond (.t
 113) C.skip (vY [vP 115 .eql 31 4,MV 113 115]))).seq (C.cond (.t 113) (vY [MV 116 11,vN 117 0 14,LD 118 117,vP 119 .eql 118 5,⟨some 120,none,.build [.int .u8 0,i6 0,.bool
 false,.bool false,.str [],.str [],i6 0] [(2,1)],[.t 119]⟩,⟨some 121,none,.bslc 9 7 1 359 [.int .u8 0,i6 0,.bool false,.bool false,.str [],.str [],i6 0] [(0,7)],[.t 120]⟩,O2 122
 (.app 10 7 359 64) 116 121,MV 11 122]) (vU [MV 32 3,MV 16 32] ((vU [vN 33 0 14,LD 34 33,vP 35 .eql 34 11] (vV 35 (vY [vN 36 1 14,LD 37 36,MV 16 37]))).seq (vU [O1 39 (.load
 (some 2)) 4,vN 40 3 14,LD 41 40,MV 42 2,MV 43 42,v7 44 43 0 14,v8 45 43 44,vT 46 43 (.bin .eql) 45 (i6 7),PT 47 43 46,MV 48 16,ON 49 (.call 234 true) [.t 39,.t 41,.t 47,.t
 48],MV 38 49,O1 50 (.ext 0) 38,O1 51 (.ext 1) 38,O1 52 (.ext 2) 38,⟨some 18,none,.alloc 11 117 [.str [],i6 0],[]⟩,MV 17 50,ST 2 18 51,MV 19 52] ((C.draw (DT.one ⟨some
 53,none,.mv,[.t 11]⟩ (DT.one ⟨some 54,none,.mv,[.t 17]⟩ ((DT.one ⟨some 55,none,.app 12 7 359 64,[.t 53,.t 54]⟩ (DT.one ⟨some 56,none,.load (some 2),[.t 18]⟩ (DT.one ⟨some
 11,none,.mv,[.t 55]⟩ (DT.one ⟨none,none,.store 2,[.t 4,.t 56]⟩ DT.nil)))).two (DT.one ⟨some 56,none,.load (some 2),[.t 18]⟩ (DT.one ⟨some 55,none,.app 12 7 359 64,[.t 53,.t
 54]⟩ (DT.one ⟨some 11,none,.mv,[.t 55]⟩ (DT.one ⟨none,none,.store 2,[.t 4,.t 56]⟩ DT.nil)))))))).seq (vY [MV 57 12,MV 58 57,vS 59 58 19,PT 60 58 59,MV 61 60,v7 62 61 0 14,v8 63
 61 62,vT 64 61 (.bin .eql) 63 (i6 8),PT 65 61 64,MV 66 65,v7 67 66 0 14,v8 68 66 67,vT 69 66 (.bin .eql) 68 (i6 9),PT 70 66 69,MV 12 70]))))))))))))))))))).seq (vZ 24
 13))).loop)).seq (vX [MV 123 11,O1 124 (.load (some 2)) 4,MV 125 12,MV 8 123,ST 2 9 124,MV 10 125])))))
theorem qyI:qG Tryz.prog 234 126 13 [RV.tmp 8,RV.cell 9 (some 2),RV.tmp 10] qwH:=fi Tryz.f234 [4,8,9,11,14,89,90,100,101,121,122,18,55] qK []
def qsw:C:=
 (vU [vO 2 0] ((vU [MV 4 0,O1 5 .len 4,vP 6 .gtr 5 1024] (vV 6 (vX [vO 2 4]))).seq ((vU [vO 3 0] (C.block 0 ((v6 7 3 0 0).seq ((C.block 1 (vU [MV 13 0,MV 14 3,O2 15 (.idxA 6) 13
 14,vN 16 0 15,LD 17 16,O1 18 .slen 17,vP 19 .gtr 18 64] (vV 19 (vX [vO 2 4])))).seq (vZ 11 3))).loop)).seq (vX [vO 2 0]))))
theorem qrs:qG Tryz.prog 236 20 0 [RV.tmp 2] qsw:=fi Tryz.f236 [] qK []
def qwJ:C:=
 (vU [ON 4 (.nilo 0 6 119) [],vO 5 0] (vU [ON 6 (.nilo 1 6 119) []] ((vU [vO 7 0] (C.block 0 ((v6 11 7 1 0).seq ((C.block 1 (vU [MV 17 1,MV 18 7,O2 19 (.idxA 6) 17 18,O1 20
 (.load (some 6)) 19,⟨some 8,none,.alloc 2 119 [.str [],.str [],.str [],i6 0,i6 0,.str []],[]⟩,ST 6 8 20] ((vU [O1 21 (.load (some 6)) 8,O1 22 (.call 300 true) 21] (vV 22 (vU
 [MV 24 0,vN 25 0 8,LD 26 25,O2 27 (.call 301 true) 24 26,MV 23 27,O1 28 (.ext 0) 23,O1 29 (.ext 1) 23,MV 9 28,MV 10 29] ((vU [MV 30 10,vP 31 .neq 30 0] (vV 31 (vX [MV 32 10,ON
 4 (.nilo 0 6 119) [],MV 5 32]))).seq (vY [MV 33 9,vN 34 1 8,ST 1 34 33]))))).seq (vY [MV 35 6,O1 36 (.load (some 6)) 8,⟨some 37,none,.bslc 3 6 1 119 [.str [],.str [],.str [],i6
 0,i6 0,.str []] [(0,6)],[.t 36]⟩,O2 38 (.app 4 6 119 80) 35 37,MV 6 38])))).seq (vZ 15 7))).loop)).seq (vX [MV 39 6,MV 4 39,vO 5 0]))))
theorem qyK:qG Tryz.prog 237 40 5 [RV.tmp 4,RV.tmp 5] qwJ:=fi Tryz.f237 [4,6,8,37,38] qK []
def qwM:C:=
 (vU [ON 2 (.nilo 0 1 9) []] (vU [ON 3 (.nilo 1 1 9) []] ((vU [vO 4 0] (C.block 0 ((v6 5 4 0 0).seq ((C.block 1 (vY [MV 11 3,MV 12 0,MV 13 4,O2 14 (.idxA 6) 12 13,vN 15 0 14,LD
 16 15,⟨some 17,none,.bslc 2 1 1 9 [.str []] [(0,1)],[.t 16]⟩,O2 18 (.app 3 1 9 16) 11 17,MV 3 18])).seq (vZ 9 4))).loop)).seq (vX [MV 19 3,MV 2 19]))))
theorem qyO:qG Tryz.prog 241 20 4 [RV.tmp 2] qwM:=fi Tryz.f241 [2,3,17,18] qK []
def qof:C:=
 (vU [MC 2 (.bool false)] (vU [MV 4 0,O1 5 (.call 163 true) 4,MV 3 5] (vX [MV 6 3,vP 7 .eql 6 1,MV 8 7,vS 9 8 3,vT 10 8 (.bin .eql) 9 (i6 3),PT 11 8 10,MV 2 11])))
theorem qk4:qG Tryz.prog 299 12 0 [RV.tmp 2] qof:=fi Tryz.f299 [] qK []
def qog:C:=
 (vU [O1 1 (.box 0 119) 0,MC 2 (.bool false)] (vX [O1 3 (.load (some 6)) 1,OC 4 (.call 211 true) 3 (i6 2),O1 5 (.un UnOp.not) 4,MV 6 5,P1 7 6 true (.load (some 6)) 1,PC 8 6 true
 (.call 211 true) 7 (i6 8),P1 9 6 true (.un UnOp.not) 8,PF 10 6 9,MV 2 10]))
theorem qk5:qG Tryz.prog 300 11 1 [RV.tmp 2] qog:=fi Tryz.f300 [1] qK []
end
section
open Go Go.Proofs AF HY LN
namespace RC
abbrev frmN:Nat:=4
def frmC:wi:= [.str [],.bool false,.bool false,.bool false,.str [],.bool true,.bool false,.bool false,.str [108,98],.bool false,.bool false,.bool false,.str [112,98],.bool true,.bool false,.bool false,
 .str [115,101,99],.bool true,.bool false,.bool false,.str [118],.bool false,.bool false,.bool false,.str [103,97,112],.bool false,.bool true,.bool false,.str [117,110,99,108,101,97,114],.bool false,.bool false,.bool true,
 .str [97,100,100],.bool false,.bool true,.bool true,.str [100,101,108],.bool false,.bool true,.bool true,.str [97,98],.bool true,.bool false,.bool true,.str [110,97,109,101],.bool true,.bool false,.bool true]
def qzW:wi:= [.str [],.bool true,.bool false,.bool false]
theorem qrF:(frmC.drop ((1:Int).toNat*4)).take 4=qzW:=rfl
def PF(h:wh):Prop:=cb SG h∧jf h frmN frmC
theorem PF.app{h:wh}(hp:PF h)(l:wh):PF (h++l):=⟨hp.1.app l,hp.2.app⟩
def ndC(s:Str):wi:= [.int .i64 1,.str s,.int .i64 0,.nl]
def zY(s:Str):AV:= .sl 1 λ_=>ndC s
def plC(s:Str):wi:= [.int .i64 1,.str s,.int .i64 0,.nl,.int .i64 0,.bool false]
theorem qGf(s:Str)(h:wh)(hs:s≠ [])(hl:s.length<=1000000)(hc:zz s=0)(hg:jf h frmN frmC):ACalls Tryz.prog 339 [.agg (plC s)] h (.int .i64 0) h:=by
 have c1:=λh=>qD5 s h om
 rw[hc]at c1;have k1:(s= [])=False:=eqf hs;refine acO qzi ?_;simp (disch:=omega) only[qxc,plC,go_sem]
 repeat' first|(apply qb;exact rvk;simp only[go_sem];apply qg)|(with_reducible first|intro _|apply aiA)|exact clz|fail
 refine qrI (cs:=frmC) hg.app ⟨by decide,by decide⟩ rfl ?_;rw[qrF];simp (disch:=omega) only[qzW,k1,go_sem]
 repeat' first|(refine qj ( .bool false) ?_;simp (disch:=omega) only[go_sem])|(refine cG (λe=>c1 _) flk ?_;simp (disch:=omega) only[go_sem])|(apply qb;exact rvk;simp only[go_sem];first|exact qi|apply qg)|(with_reducible first|intro _|apply aiA)|exact clz|fail
end RC
end
section
open Go Go.Proofs AF HY LN
namespace AF
mutual
theorem kG{n m:Nat}(h:n<=m): ∀c,qV n c=true->qV m c=true
 | .osl k v z o l,hc=>by simp only[qV,decide_eq_true_eq]at*;omega
 | .op k v o,hc=>by simp only[qV,decide_eq_true_eq]at*;omega
 | .mp k v,hc=>by simp only[qV,decide_eq_true_eq]at*;omega
 | .yld k,hc=>by simp only[qV,decide_eq_true_eq]at*;omega
 | .agg cs,hc=>by simp only[qV]at*;exact gH h cs hc
 | .tup cs,hc=>by simp only[qV]at*;exact gH h cs hc
 | .fn f a b,hc=>by simp only[qV,Bool.and_eq_true]at*;exact⟨gH h a hc.1,gH h b hc.2⟩
 | .gd g v,hc=>by
  cases g with
  |false=>rfl
  |true=>simp only[qV,Bool.not_true,Bool.false_or]at*;exact kG h v hc
 | .undef,_=>rfl
 | .bool _,_=>rfl
 | .int _ _,_=>rfl
 | .str _,_=>rfl
 | .sl _ _,_=>rfl
 | .ip _,_=>rfl
 | .nilp,_=>rfl
 | .nl,_=>rfl
 | .el,_=>rfl
 | .nilfn,_=>rfl
 | .ifc,_=>rfl
 | .nilif,_=>rfl
 | .anyb,_=>rfl
theorem gH{n m:Nat}(h:n<=m): ∀cs,qV.lowVs n cs=true->qV.lowVs m cs=true
 | [],_=>rfl
 |c::r,hc=>by simp only[qV.lowVs,Bool.and_eq_true]at*;exact⟨kG h c hc.1,gH h r hc.2⟩
end
theorem lowO_mono{n m:Nat}(h:n<=m){o:AObj}(ho:lowO n o):lowO m o:=by
 cases o with
 |mem v ty cs=>exact λc hc=>kG h c (ho c hc)
 |emp v=>trivial
 |lp s ts L=>exact λc hc=>kG h c (ho c hc)
 |map v es=>exact λp hp=>kG h p.2 (ho p hp)
 |pin bs G=>trivial
theorem LowI.retX{h hh xs:wh}{ts:wi}{L:LInfo}(s:LS)(hl:LowI h hh)(hts: ∀c∈ts,qV (h.length+1) c=true):
  (hh++ .lp s ts L::xs).length=(h++ .lp .ready ts L::xs).length∧ ∀o∈hh++ .lp s ts L::xs,o∈h++ .lp .ready ts L::xs∨lowO (h++ .lp .ready ts L::xs).length o:=by
 refine⟨by simp[hl.1],λo ho=> ?_⟩;rcases List.mem_append.1 ho with ho|ho
 ·rcases hl.2 o ho with h1|⟨h1,_⟩
  ·exact .inl (List.mem_append_left _ h1)
  ·exact .inr (lowO_mono (by simp) h1)
 ·rcases List.mem_cons.1 ho with rfl|ho
  ·exact .inr (λc hc=>kG (by simp) c (hts c hc))
  ·exact .inl (List.mem_append_right _ (List.mem_cons_of_mem _ ho))
end AF
namespace RC
theorem qGJ(d:Int)(a b:AV)(h:wh):ACalls Tryz.prog 373 [.nl,.int .i64 d,a,b] h (.bool true) h:=by
 refine acO qrD ?_;simp (disch:=omega) only[qsG,go_sem];refine qk (T:=λ_:Unit=>qP 40 [(1,.int .i64 d),(2,a),(3,b),(7,.bool false),(10,.nl),(11,.int .i64 0),(12,.int .i64 0)]) (H:=λ_=>h++ [.emp 0]) (inv:=λ_=>True) (m:=λ_=>0) () trivial (Wk.temps ?_) ?_
 ·(simp only[go_sem,qf,qc,qa,qe];try exact we)
 rintro⟨⟩ _ K hK;simp (disch:=omega) only[go_sem]
 repeat' first|exact wa|(with_reducible first|intro _|apply aiA)|exact clz|fail
def cyl(n:Nat):AObj:= .mem 1 411 [.yld n]
def cwk(n:Nat):AObj:= .mem 1 412 [.fn (.func 373) [] [.op (n+1) 1 0,.op (n+2) 1 0]]
section
variable {n : Nat} {hh m : wh} {st : LS} {ts : wi} {LI : LInfo}
theorem qAC(hl:hh.length=n):cellsOf (hh++ .lp st ts LI::cyl n::cwk n::m) (n+1) 1=some [.yld n]:=qR (show qu _ _=some (cyl n) by subst hl;unfold qu;simp)
theorem qAD(hl:hh.length=n):cellsOf (hh++ .lp st ts LI::cyl n::cwk n::m) (n+2) 1=some [.fn (.func 373) [] [.op (n+1) 1 0,.op (n+2) 1 0]]:=qR (show qu _ _=some (cwk n) by subst hl;unfold qu;simp)
end
theorem wlk1(s:Str)(h:wh)(ts:wi)(LI:LInfo)(S:Nat->wh->Prop)(E:LS->wh->Prop)(hS: ∀i hh,S i hh->LowI h hh)(hE: ∀s hh,E s hh->LowI h hh)
  (body: ∀i hh tl,(hi:i< [[AV.agg (plC s)]].length)->S i hh->kr Tryz.prog h.length ([[AV.agg (plC s)]][i]) (hh++ .lp .ready ts LI::tl) (λr h'=> ∃hh',(r= .bool true∧S (i+1) hh'∧h'=hh'++ .lp .ready ts LI::tl)∨(∃s,r= .bool false∧E s hh'∧h'=hh'++ .lp s ts LI::tl)))
  (start:S 0 h) (hts: ∀c∈ts,qV (h.length+1) c=true):
  jj Tryz.prog 373 [zY s,.int .i64 0,.op (h.length+1) 1 0,.op (h.length+2) 1 0] (h++ [.lp .ready ts LI,cyl h.length,cwk h.length])
   (λr h'=> ∃hh',(r= .bool true∧S 1 hh'∧h'=hh'++ [.lp .ready ts LI,cyl h.length,cwk h.length])∨(∃st,r= .bool false∧E st hh'∧h'=hh'++ [.lp st ts LI,cyl h.length,cwk h.length])):=by
 refine acQ qrD ?_;simp (disch:=omega) only[qsG,zY,ndC,go_sem];refine qk (T:=λi:Nat×wh×AObj=>qP 40 [(1,.int .i64 0),(2,.op (h.length+1) 1 0),(3,.op (h.length+2) 1 0),(7,.bool (decide (i.1=1))),(10,zY s),(11,.int .i64 ((1:Nat):Int)),(12,.int .i64 i.1)])
  (H:=λi=>i.2.1++ [.lp .ready ts LI,cyl h.length,cwk h.length]++ [i.2.2])
  (inv:=λi=>i.1<=1∧S i.1 i.2.1∧qz [i.2.2] 0=true) (m:=λi=>1-i.1) (0,h,.emp 0) ⟨nzl _,start,rfl⟩ (Wk.temps ?_) ?_
 ·(simp only[zY,ndC,go_sem,qf,qc,qa,qe];try exact we)
 rintro⟨i,hh,O⟩ ⟨i1,i2,i3⟩ K hK;simp only at i1 i2 i3 hK;obtain⟨hlen,hlow⟩:=hS _ _ i2;have hb:(h++ [AObj.lp LS.ready ts LI,cyl h.length,cwk h.length]).length=(hh++ [AObj.lp LS.ready ts LI,cyl h.length,cwk h.length]).length:=by simp[hlen]
 rw[hb];have i3': ∀m,qz (O::m) 0=true:=λ_=>i3
 have ea: ∀(g:wh) m,g++ [AObj.lp LS.ready ts LI,cyl h.length,cwk h.length]++m=g++ .lp .ready ts LI::cyl h.length::cwk h.length::m:=λg m=>by simp
 have d1: ∀m,cellsOf (hh++ [AObj.lp LS.ready ts LI,cyl h.length,cwk h.length]++m) (h.length+1) 1=some [.yld h.length]:=λm=>by rw[ea];exact qAC hlen
 have d2: ∀m,cellsOf (hh++ [AObj.lp LS.ready ts LI,cyl h.length,cwk h.length]++m) (h.length+2) 1=some [.fn (.func 373) [] [.op (h.length+1) 1 0,.op (h.length+2) 1 0]]:=λm=>by rw[ea];exact qAD hlen
 by_cases hi:i<1
 ·obtain rfl:i=0:=by omega
  have hb':=λO'=>body 0 hh [cyl h.length,cwk h.length,O'] (by simp) i2
  simp (disch:=omega) only[zY,ndC,i3',d1,go_sem]
  repeat' first|(with_reducible first|intro _|apply aiA)|exact clz|fail
  ·exact⟨.ready,ts,LI,by rw[ea];exact kT hlen⟩
  ·rw[ea];refine kr.mono ?_ (hb' _);rintro v h' ⟨hh',⟨rfl,hn,rfl⟩|⟨st,rfl,hs',rfl⟩⟩
   ·have hl':=(hS _ _ hn).1;have hq:(hh++ [AObj.lp LS.ready ts LI,cyl h.length,cwk h.length]).length=(hh'++ [AObj.lp LS.ready ts LI,cyl h.length,cwk h.length]).length:=by simp[hlen,hl']
    rw[<-ea,hq];have e1: ∀m,cellsOf (hh'++ [AObj.lp LS.ready ts LI,cyl h.length,cwk h.length]++m) (h.length+1) 1=some [.yld h.length]:=λm=>by rw[ea];exact qAC hl'
    have e2: ∀m,cellsOf (hh'++ [AObj.lp LS.ready ts LI,cyl h.length,cwk h.length]++m) (h.length+2) 1=some [.fn (.func 373) [] [.op (h.length+1) 1 0,.op (h.length+2) 1 0]]:=λm=>by rw[ea];exact qAD hl'
    simp (disch:=omega) only[e2,go_sem]
    repeat' first|(refine qI (qGJ _ _ _ _) ?_;simp (disch:=omega) only[go_sem])|(with_reducible first|intro _|apply aiA)|exact clz|fail
    refine hK _ _ (1,hh',.mem (qo (some O)+1) 234 (ndC s)) ⟨nlr _,hn,rfl⟩ (by simp only;omega) (Wk.temps ?_)
    (simp only[zY,ndC,go_sem,qf,qc,qa,qe];try exact we)
   ·simp (disch:=omega) only[go_sem]
    repeat' first|(with_reducible first|intro _|apply aiA)|exact clz|fail
    obtain⟨r1,r2⟩:=(hE _ _ hs').retX (L:=LI) (xs:= [cyl h.length,cwk h.length]) st hts;have eO: ∀O',hh'++ .lp st ts LI::cyl h.length::cwk h.length:: [O']=(hh'++ [.lp st ts LI,cyl h.length,cwk h.length])++ [O']:=λ_=>by simp
    rw[eO];exact DV ⟨trivial,trivial⟩ r1 r2 ⟨hh',.inr ⟨st,rfl,hs',rfl⟩⟩ (qi)
 ·obtain rfl:i=1:=by omega
  simp (disch:=omega) only[zY,ndC,go_sem]
  repeat' first|(with_reducible first|intro _|apply aiA)|exact clz|fail
  obtain⟨r1,r2⟩:=(hS _ _ i2).retX (L:=LI) (xs:= [cyl h.length,cwk h.length]) .ready hts;exact DV ⟨trivial,trivial⟩ r1 r2 ⟨hh,.inl ⟨rfl,i2,rfl⟩⟩ (qi)
end RC
end
section
namespace Go.Proofs
open Go.Shelf Go.RowKit
set_option maxHeartbeats 1000000 in
set_option maxRecDepth 100000 in
theorem qkd(b d:Nat)(w:World)(h0:w.cell? ⟨b,d,none⟩=some (.pointer (some ⟨b,d,none⟩))):
  Calls Tryz.prog 333 #[.pointer (some ⟨b,d,none⟩)] w λe w'=>e= .returned (.tuple #[])∧w'=w:=by
 obtain⟨j,hj,_⟩:=Option.map_eq_some_iff.1 (show (Tryz.prog.info? 333).map (·.size)=some 2 by kernel_rfl)
 go_enter Tryz.func333,Tryz.ntmps333
 go_wp2
 rw[Lib.run_neq_ptr_same w _ Tryz.underlying331 hj]
 go_wp2
 go_end0
 exact⟨rfl,rfl⟩
set_option maxHeartbeats 1000000 in
set_option maxRecDepth 100000 in
theorem qgB(b d ty n:Nat)(w:World)(h0:w.cell? ⟨b,d,none⟩=some (.pointer none))(hn:d+2<=n)(hsh:w.shape? b=some (ty,n))(hfz:w.frozen? ⟨b,d,none⟩=false)
  (hl:liesAt Tryz.prog Tryz.prog.depth ty (n/Tryz.prog.cellsOf ty) d 333 1=true):
  Calls Tryz.prog 333 #[.pointer (some ⟨b,d,none⟩)] w λe w'=>e= .returned (.tuple #[])∧w'=w.setCell ⟨b,d,none⟩ (.pointer (some ⟨b,d,none⟩)):=by
 obtain⟨j,hj,hjs⟩:=Option.map_eq_some_iff.1 (show (Tryz.prog.info? 333).map (·.size)=some 2 by kernel_rfl)
 go_enter Tryz.func333,Tryz.ntmps333
 go_wp2
 rw[Lib.run_to_unsafe w ⟨b,d,none⟩ Tryz.underlying331 Tryz.underlying408 hj (by rw[hjs];decide) hsh (show d<n by omega)];simp only[Result.andThen];rw[Oper.upon_value]
 go_wp2
 rw[run_callFunc_extern Tryz.func370 (by kernel_rfl) (by kernel_rfl) (by kernel_rfl) (e:=Extern.AbiNoEscape.same) (by kernel_rfl)];rw[Lib.run_noEscape];simp only[Result.andThen];rw[Oper.upon_value]
 go_wp2
 rw[Lib.run_from_unsafe w ⟨b,d,none⟩ Tryz.underlying408 Tryz.underlying331 hj hsh hl];simp only[Result.andThen];rw[Oper.upon_value]
 go_wp2
 go_end0
 exact⟨rfl,rfl⟩
set_option maxHeartbeats 1000000 in
set_option maxRecDepth 100000 in
theorem qhj(b d g cap:Nat)(l:List UInt8)(cur:Array Value)(w:World)(h0:l≠ [])(c0:w.cell? ⟨b,d+1,none⟩=some (.slice (some ⟨g,0,none⟩) l.length cap))(hg:w.heap[g]? =some (.cells cur 5 (0,0)))
  (hnc:l.length<=cap) (hcm:cap<=maxLen) (hcs:cap<=cur.size) (hcell: ∀(j:Nat) x,l[j]? =some x->w.cell? ⟨g,j,none⟩=some (.int .u8 x.toNat)):
  Calls Tryz.prog 278 #[.pointer (some ⟨b,d,none⟩)] w λe w'=>e= .returned (.string ⟨l.toArray⟩)∧w'=w.drew.freeze ⟨g,0,none⟩ l.length:=by
 have hl0:l.length≠0:=by simpa using h0
 have c1:w.drew.cell? ⟨b,d+1,none⟩=some (.slice (some ⟨g,0,none⟩) l.length cap):=c0;have hSD:(Builtin.unsafeSliceData_ #[289] 379 #[.slice (some ⟨g,0,none⟩) l.length cap]).run Tryz.prog w.drew= .ok (.pointer (some ⟨g,0,none⟩)) w.drew:=
  Lib.run_unsafeSliceData_row _ _ _ _ _ _ om
 have hUS:(Builtin.unsafeString_ #[379,3] 9 #[.pointer (some ⟨g,0,none⟩),.int .i64 l.length]).run Tryz.prog w.drew= .ok (.string ⟨l.toArray⟩) (w.drew.freeze ⟨g,0,none⟩ l.length):=by
  refine Lib.run_unsafeString_row w.drew 379 3 9 5 Tryz.underlying379 (by kernel_rfl) g cur.size (by have hg':w.drew.heap[g]? =some (.cells cur 5 (0,0)):=hg;simp[World.shape?,hg']) l h0 om (by unfold maxLen at hcm;omega) ?_;intro j x hx
  have:=hcell j x hx
  cases j with
  |zero=>exact this
  |succ j=>
   have e:(⟨g,0,none⟩:Addr).add (j+1)=⟨g,j+1,none⟩:=by
    unfold Addr.add;rw[ine (Nat.succ_ne_zero j)];simp only[Nat.zero_add]
   rw[e];exact this
 have mixed:Tryz.prog.follows .mixedOrders=true:=by kernel_rfl
 go_enter Tryz.func278,Tryz.ntmps278
 go_wp2
 go_region_o
 all_goals (go_wp2;go_ret;exact⟨rfl,rfl⟩)
set_option maxHeartbeats 2000000 in
set_option maxRecDepth 100000 in
theorem qhi(b d:Nat)(w:World)(c0:w.cell? ⟨b,d+1,none⟩=some (.slice none 0 0)):
  Calls Tryz.prog 278 #[.pointer (some ⟨b,d,none⟩)] w λe w'=>e= .returned (.string ⟨#[]⟩)∧w'=w.drew:=by
 have hUS: ∀(W:World) (q:Option Addr),(Builtin.unsafeString_ #[379,3] 9 #[.pointer q,.int .i64 0]).run Tryz.prog W= .ok (.string .empty) W:=λW q=>Lib.run_unsafeString_none W _ _ _ q
 have c1:w.drew.cell? ⟨b,d+1,none⟩=some (.slice none 0 0):=c0;have hSD:(Builtin.unsafeSliceData_ #[289] 379 #[.slice none 0 0]).run Tryz.prog w.drew= .ok (.pointer none) w.drew:=rfl;have mixed:Tryz.prog.follows .mixedOrders=true:=by kernel_rfl
 go_enter Tryz.func278,Tryz.ntmps278
 go_wp2
 go_region_o
 all_goals (go_wp2;go_ret;exact⟨rfl,rfl⟩)
end Go.Proofs
end
section
open Go Go.Proofs AF
def qlj:List Nat:= [333,277,377,278,347]
def qwT:C:=
 (vU [vO 4 0,MC 5 .nilif] (vU [MV 6 0,O1 7 (.call 333 false) 6] (vU [MV 8 0,MV 9 0,O1 10 .nilchk 9,vN 11 1 10,LD 12 11,MV 13 1,O2 14 (.apps 0 5) 12 13,O1 15 .nilchk 8,vN 16 1
 15,ST 1 16 14] (vX [MV 17 1,O1 18 .slen 17,MV 4 18,MC 5 .nilif]))))
theorem qyV:qG Tryz.prog 277 19 1 [RV.tmp 4,RV.tmp 5] qwT:=fi Tryz.f277 [14] qlj []
def qxr:C:=
 (vU [MC 4 .nilif] (vU [MV 5 0,O1 6 (.call 333 false) 5] (vU [MV 7 0,MV 8 0,O1 9 .nilchk 8,vN 10 1 9,LD 11 10,MV 12 1,⟨some 13,none,.bslc 0 1 1 5 [.int .u8 0] [(0,1)],[.t 12]⟩,O2
 14 (.app 1 1 5 1) 11 13,O1 15 .nilchk 7,vN 16 1 15,ST 1 16 14] (vX [MC 4 .nilif]))))
theorem qzx:qG Tryz.prog 377 17 2 [RV.tmp 4] qxr:=fi Tryz.f377 [13,14] qlj []
end
section
open Go Go.Proofs AF HY RC LN
namespace HY
def qcG(v:Nat)(s:List UInt8):AObj:=if s= [] then .emp v else .mem v 5 (zQ s)
theorem qb0(v:Nat):qcG v []= .emp v:=rfl
theorem qam{s:List UInt8}(h:s≠ [])(v:Nat):qcG v s= .mem v 5 (zQ s):=ine h
theorem qcW(s u:List UInt8):zQ (s++u)=zQ s++zQ u:=by simp[zQ]
theorem qhy(s:List UInt8)(n:Nat): ∀c∈zQ s,qV n c=true:=by
 intro c hc;unfold zQ at hc;rw[List.mem_map]at hc;obtain⟨a,_,rfl⟩:=hc;rfl
theorem jl(v:Nat)(s:List UInt8)(n:Nat):lowO n (qcG v s):=by
 unfold qcG;split
 ·trivial
 ·exact qhy s n
theorem qdr{kb kj:Nat}{h:wh}{X Y Z:AObj}(hne:kb≠kj):qt kb (qt kj (qt kb h X) Y) Z=qt kj (qt kb h Z) Y:=by
 rw[kM hne,gL]
theorem qsm(v:Nat)(u:List UInt8):(if u.length=0 then AObj.emp v else AObj.mem v 5 (zQ u))=qcG v u:=by
 unfold qcG
 by_cases h:u= []
 ·simp[h]
 ·rw[ine h,ine (by simpa using h)]
theorem qbD(w:World)(g n:Nat):w.grownBy (w.drew.freeze ⟨g,0,none⟩ n) (some g):=by
 unfold World.freeze;split
 ·exact⟨rfl,rfl,rfl,nlr _,λ_ _ _=>rfl⟩
 ·refine⟨rfl,rfl,rfl,?_,λk hk hne=> ?_⟩
  ·show w.heap.size<=(w.heap.modify g _).size;rw[Array.size_modify];exact nlr _
  ·have:g≠k:=λe=>hne (by rw[e])
   show (w.heap.modify g _)[k]? =w.heap[k]?;rw[Array.getElem?_modify,ine this]
theorem qig{p:Program}{fits:TypeId->Bool}{e:TypeId}{c c' off n:Nat}(hc:c<=c'): ∀d,rowAt p fits d e c off n=true->rowAt p fits d e c' off n=true:=by
 intro d;cases d with
 |zero=>exact id
 |succ d=>
  unfold rowAt;simp only;split
  ·exact id
  ·intro h;rw[Bool.or_eq_true]at h ⊢;rcases h with h|h
   ·refine .inl ?_;simp only[Bool.and_eq_true,decide_eq_true_iff]at h ⊢;exact⟨⟨h.1.1,om⟩,h.2⟩
   ·refine .inr ?_;rw[Bool.and_eq_true]at h ⊢;exact⟨by simp only[decide_eq_true_iff]at h ⊢;omega,h.2⟩
theorem qcu{p:Program}{e u:TypeId}{c c' off n:Nat}(hc:c<=c'): ∀d,liesAt p d e c off u n=true->liesAt p d e c' off u n=true:=by
 intro d
 induction d generalizing u n with
 |zero=>exact id
 |succ d ih=>
  unfold liesAt;intro h;rw[Bool.or_eq_true]at h ⊢;rcases h with h|h
  ·exact .inl (qig hc _ h)
  ·refine .inr ?_;split at h
   ·exact ih h
   ·cases h
end HY
end
