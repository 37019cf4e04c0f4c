import Derived.Test.YtmieflnoheifbaaGreatDoorK9
import Derived.Test.YtmieflnoheifbaaGreatDoorK3
import Derived.Test.YtmieflnoheifbaaGreatDoorK5
import Derived.Test.YtmieflnoheifbaaGreatDoorK8
import Derived.Test.YtmieflnoheifbaaGreatDoorProg
import Derived.Lib.IndexMore
import Derived.Lib.CountLaws
import Derived.Laws.Strings3
import Derived.Test.YtmieflnoheifbaaGreatDoorK7
set_option linter.all false
set_option maxHeartbeats 64000000
set_option maxRecDepth 100000
section
open Go Go.Proofs AF HY LN
namespace RC
structure qss (L:List Rd) (s:Nat):Prop where
 src: ∀r∈L,r.src.Pairwise (· < ·)∧ ∀x∈r.src,0<=x∧x<s
 ne: ∀i j,i<j->j<L.length->(L.getD i default).words≠(L.getD j default).words
theorem qaW(L:List Rd)(w:List Str):(∃i,i<L.length∧(L.getD i default).words=w∧qi5 L w=i)∨((∀i,i<L.length->(L.getD i default).words≠w)∧qi5 L w<0):=by
 unfold qi5;rcases zT (λj=>decide (w=(L.getD j default).words)) L.length with⟨i,h1,h2,_,h4⟩|⟨h1,h2⟩
 ·exact .inl ⟨i,h1,(of_decide_eq_true h2).symm,h4⟩
 ·exact .inr ⟨λi hi e=>of_decide_eq_false (h1 i hi) e.symm,om⟩
theorem kh{L:List Rd}{i j:Nat}{r:Rd}(hi:i<L.length):(L.set i r).getD j default=if j=i then r else L.getD j default:=by
 rw[gdqA,List.getElem?_set]
 by_cases e:i=j
 ·subst e;rw[ipo rfl,ipo hi,ipo rfl];rfl
 ·rw[ine e,ine (λh=>e h.symm),gdqA]
theorem qon{L:List Rd}{w:List Str}{s:Nat}(h:qss L s):qss (qfg L w s) (s+1):=by
 have g: ∀i (hi:i<L.length),L.getD i default=L[i]:=λi hi=>by rw[gdqA,zH hi];rfl
 rcases qaW L w with⟨i,h1,h2,h3⟩|⟨h1,h2⟩
 ·have e:qfg L w s=L.set i ⟨w,(L.getD i default).src++ [(s:Int)]⟩:=by
   unfold qfg;rw[h3,ine om,itn]
  rw[e];have hm:=h.src (L.getD i default) (by rw[g i h1];exact List.getElem_mem h1);refine⟨λr hr=> ?_,λa b hab hb=> ?_⟩
  ·rcases List.mem_or_eq_of_mem_set hr with hr|rfl
   ·obtain⟨a,b⟩:=h.src r hr;exact⟨a,λx hx=>by have:=b x hx;omega⟩
   ·refine⟨List.pairwise_append.2 ⟨hm.1,List.pairwise_singleton _ _,λa ha b hb=> ?_⟩,λx hx=> ?_⟩
    ·rw[List.mem_singleton]at hb
     have:=hm.2 a ha
     omega
    ·rcases List.mem_append.1 hx with hx|hx
     ·have:=hm.2 x hx;omega
     ·rw[List.mem_singleton]at hx;omega
  ·rw[List.length_set]at hb;rw[kh h1,kh h1];have key: ∀j,j<L.length->j≠i->(L.getD j default).words≠w:=λj hj hne e=>by
    rw[<-h2]at e;rcases Nat.lt_or_gt_of_ne hne with hlt|hlt
    ·exact h.ne j i hlt h1 e
    ·exact h.ne i j hlt hj e.symm
   by_cases ea:a=i
   ·rw[ipo ea,ine om];exact λe=>key b hb om e.symm
   ·rw[ine ea]
    by_cases eb:b=i
    ·rw[ipo eb];exact key a om ea
    ·rw[ine eb];exact h.ne a b hab hb
 ·have e:qfg L w s=L++ [⟨w,[(s:Int)]⟩]:=by
   unfold qfg;rw[ipo h2]
  rw[e];refine⟨λr hr=> ?_,λa b hab hb=> ?_⟩
  ·rcases List.mem_append.1 hr with hr|hr
   ·obtain⟨a,b⟩:=h.src r hr;exact⟨a,λx hx=>by have:=b x hx;omega⟩
   ·rw[List.mem_singleton]at hr;subst hr;exact⟨List.pairwise_singleton _ _,λx hx=>by rw[List.mem_singleton]at hx;omega⟩
  ·rw[lap,List.length_singleton]at hb;have ga: ∀j,j<L.length->(L++ [(⟨w,[(s:Int)]⟩:Rd)]).getD j default=L.getD j default:=λj hj=>by
    rw[gdqA,List.getElem?_append_left hj,gdqA]
   rw[ga a om]
   by_cases eb:b<L.length
   ·rw[ga b eb];exact h.ne a b hab eb
   ·have:b=L.length:=by omega
    subst this;have gb:(L++ [(⟨w,[(s:Int)]⟩:Rd)]).getD L.length default=⟨w,[(s:Int)]⟩:=by
     rw[gdqA,List.getElem?_append_right (nlr _),Nat.sub_self];rfl
    rw[gb];exact h1 a om
theorem qgS(x:Co)(f d:Nat): ∀s,qss (qbj x f d s) s:=by
 intro s
 induction s with
 |zero=>exact⟨λr hr=>absurd hr List.not_mem_nil,λi j _ h=>absurd h (nnz j)⟩
 |succ s ih=>exact qon ih
structure qsr (L:List Rd) (s:Nat) (W:Nat->List Str):Prop where
 has: ∀i,i<s-> ∃j,j<L.length∧(i:Int)∈(L.getD j default).src
 wd: ∀j,j<L.length-> ∀x∈(L.getD j default).src,(L.getD j default).words=W x.toNat
 nn: ∀j,j<L.length->(L.getD j default).src≠ []
theorem qah{L:List Rd}{r:Rd}{j:Nat}:(L++ [r]).getD j default=if j<L.length then L.getD j default else if j=L.length then r else default:=by
 rw[gdqA];split
 ·rename_i h;rw[List.getElem?_append_left h,gdqA]
 ·rename_i h;rw[List.getElem?_append_right om];split
  ·rename_i e;subst e;rw[Nat.sub_self];rfl
  ·rw[List.getElem?_eq_none (by rw[List.length_singleton];omega)];rfl
theorem qom{L:List Rd}{s:Nat}{W:Nat->List Str}(h:qsr L s W):qsr (qfg L (W s) s) (s+1) W:=by
 rcases qaW L (W s)with⟨k,h1,h2,h3⟩|⟨h1,h2⟩
 ·have e:qfg L (W s) s=L.set k ⟨W s,(L.getD k default).src++ [(s:Int)]⟩:=by
   unfold qfg;rw[h3,ine om,itn]
  rw[e];refine⟨λi hi=> ?_,λj hj x hx=> ?_,λj hj=> ?_⟩
  ·by_cases ei:i=s
   ·subst ei;exact⟨k,by rw[List.length_set];exact h1,by rw[kh h1,ipo rfl];exact List.mem_append_right _ (List.mem_singleton.2 rfl)⟩
   ·obtain⟨j,hj,hx⟩:=h.has i om;refine⟨j,by rw[List.length_set];exact hj,?_⟩;rw[kh h1];split
    ·rename_i e';subst e';exact List.mem_append_left _ hx
    ·exact hx
  ·rw[List.length_set]at hj;rw[kh h1]at hx ⊢;split at hx
   ·rename_i e';rw[ipo e'];rcases List.mem_append.1 hx with hx|hx
    ·rw[<-h2];exact h.wd k h1 x hx
    ·rw[List.mem_singleton]at hx;subst hx;rfl
   ·rename_i e';rw[ine e'];exact h.wd j hj x hx
  ·rw[List.length_set]at hj;rw[kh h1];split
   ·exact λe=>absurd (List.append_eq_nil_iff.1 e).2 (by simp)
   ·exact h.nn j hj
 ·have e:qfg L (W s) s=L++ [⟨W s,[(s:Int)]⟩]:=by
   unfold qfg;rw[ipo h2]
  rw[e];refine⟨λi hi=> ?_,λj hj x hx=> ?_,λj hj=> ?_⟩
  ·by_cases ei:i=s
   ·subst ei;exact⟨L.length,by rw[lap,List.length_singleton];omega,by rw[qah,ine om,ipo rfl];exact List.mem_singleton.2 rfl⟩
   ·obtain⟨j,hj,hx⟩:=h.has i om;exact⟨j,by rw[lap,List.length_singleton];omega,by rw[qah,ipo hj];exact hx⟩
  ·rw[lap,List.length_singleton]at hj;rw[qah]at hx ⊢;split at hx
   ·rename_i hl;rw[ipo hl];exact h.wd j hl x hx
   ·rename_i hl;rw[ine hl,ipo om];rw[ipo om]at hx;rw[List.mem_singleton]at hx;subst hx;rfl
  ·rw[lap,List.length_singleton]at hj;rw[qah];split
   ·rename_i hl;exact h.nn j hl
   ·rw[ipo om];simp
theorem qgR(x:Co)(f d:Nat): ∀s,qsr (qbj x f d s) s λi=>rdG x i f d:=by
 intro s
 induction s with
 |zero=>exact⟨λi h=>absurd h (nnz i),λj h=>absurd h (nnz j),λj h=>absurd h (nnz j)⟩
 |succ s ih=>exact qom ih
def qhe(b:List Wd):List Str:=b.map (·.text)
theorem qtW{s:Str}(h:qdo s=true):2<=s.length:=by
 unfold qdo at h;rw[List.any_eq_true]at h;obtain⟨k,_,hk⟩:=h;rw[of_decide_eq_true hk,lco,lap,List.length_singleton];omega
theorem qvu{t:Tk}(h:txB t=true):zW t.text=true:=by
 unfold txB at h;unfold zW;split at h
 ·rw[Bool.and_eq_true]at h
  have:=qtW h.1
  rw[ine om,h.1,Bool.or_true]
 ·split at h
  ·rw[Bool.and_eq_true]at h;have h:=h.1;unfold qv0 at h;rw[Bool.and_eq_true,decide_eq_true_iff]at h;rw[ipo h.1,h.2,Bool.or_true]
  ·rw[Bool.and_eq_true]at h;rw[h.1,Bool.true_or]
theorem qsk{t:Tk}(h:tkE t=0):txB t=true:=by
 unfold tkE at h;split at h
 ·cases h
 split at h
 ·cases h
 split at h
 ·cases h
 rename_i h3;simpa using h3
def ocI(w:List Str)(l:Str)(i:Nat):Nat->List (Nat×Nat)
 |0=> []
 |d+1=>ocI w l i d++if w.getD (i+1+d) []=l then [(i,i+1+d)] else []
def ocR(w:List Str)(f l:Str)(i:Nat):List (Nat×Nat):=if w.getD i []=f then (if l= [] then [(i,i)] else ocI w l i (w.length-(i+1))) else []
def ocL(w:List Str)(f l:Str):Nat->List (Nat×Nat)
 |0=> []
 |i+1=>ocL w f l i++ocR w f l i
def occ(w:List Str)(f l:Str):List (Nat×Nat):=ocL w f l w.length
theorem qsd{α:Type}{A B X:List α}{x:α}(h:A++x::B<+:X): ∃hi:A.length<X.length,X[A.length]=x:=by
 obtain⟨C,rfl⟩:=h;refine⟨by simp,?_⟩;simp
theorem quu(w:List Str)(f l:Str)(i:Nat): ∀d,ocL w f l i<+:ocL w f l (i+d):=by
 intro d
 induction d with
 |zero=>exact List.prefix_refl _
 |succ d ih=>exact ih.trans (List.prefix_append _ _)
theorem qut(w:List Str)(l:Str)(i d:Nat): ∀e,ocI w l i d<+:ocI w l i (d+e):=by
 intro e
 induction e with
 |zero=>exact List.prefix_refl _
 |succ e ih=>exact ih.trans (List.prefix_append _ _)
theorem qlT{w:List Str}{f l:Str}{i:Nat}(hi:i<w.length):ocL w f l i++ocR w f l i<+:occ w f l:=by
 have:=quu w f l (i+1) (w.length-(i+1))
 rw[show i+1+(w.length-(i+1))=w.length by omega]at this;exact this
theorem qlS{w:List Str}{f:Str}{i:Nat}(hi:i<w.length)(hf:w.getD i []=f): ∃h:(ocL w f [] i).length<(occ w f []).length,(occ w f [])[(ocL w f [] i).length]=(i,i):=by
 have h:=qlT (f:=f) (l:= []) hi;unfold ocR at h;rw[ipo hf,ipo rfl]at h;exact qsd h
theorem qlU{w:List Str}{f l:Str}{i d:Nat}(hi:i+1+d<w.length)(hf:w.getD i []=f)(hl:l≠ [])(he:w.getD (i+1+d) []=l):
  ∃h:(ocL w f l i++ocI w l i d).length<(occ w f l).length,(occ w f l)[(ocL w f l i++ocI w l i d).length]=(i,i+1+d):=by
 have h:=qlT (f:=f) (l:=l) (show i<w.length by omega);unfold ocR at h;rw[ipo hf,ine hl]at h;have h2:ocI w l i d++(if w.getD (i+1+d) []=l then [(i,i+1+d)] else [])<+:ocI w l i (w.length-(i+1)):=by
  have:=qut w l i (d+1) (w.length-(i+1)-(d+1))
  rw[show d+1+(w.length-(i+1)-(d+1))=w.length-(i+1) by omega]at this;exact this
 rw[ipo he]at h2;obtain⟨C,hC⟩:=h2;obtain⟨D,hD⟩:=h;refine qsd (B:=C++D) ⟨[],?_⟩;rw[<-hD,<-hC];simp
theorem qlO{w:List Str}{l:Str}{i:Nat}{p:Nat×Nat}: ∀ {d:Nat},p∈ocI w l i d->p.1=i∧i<p.2∧p.2<i+1+d:=by
 intro d
 induction d with
 |zero=>intro h;cases h
 |succ d ih=>
  intro h;unfold ocI at h;rcases List.mem_append.1 h with h|h
  ·have:=ih h;omega
  ·split at h
   ·rw[List.mem_singleton]at h;subst h;exact⟨rfl,by simp only;omega,by simp only;omega⟩
   ·cases h
theorem qlP{w:List Str}{f l:Str}{i:Nat}{p:Nat×Nat}(hi:i<w.length)(h:p∈ocR w f l i):p.1=i∧i<=p.2∧p.2<w.length:=by
 unfold ocR at h;split at h
 ·split at h
  ·rw[List.mem_singleton]at h;subst h;exact⟨rfl,nlr _,hi⟩
  ·have:=qlO h;omega
 ·cases h
def ltP(p q:Nat×Nat):Prop:=p.1<q.1∨(p.1=q.1∧p.2<q.2)
theorem qzO(w:List Str)(l:Str)(i:Nat): ∀d,(ocI w l i d).Pairwise ltP:=by
 intro d
 induction d with
 |zero=>exact List.Pairwise.nil
 |succ d ih=>
  unfold ocI;refine List.pairwise_append.2 ⟨ih,?_,λp hp q hq=> ?_⟩
  ·split
   ·exact List.pairwise_singleton _ _
   ·exact List.Pairwise.nil
  ·have h1:=qlO hp;split at hq
   ·rw[List.mem_singleton]at hq;subst hq;exact .inr ⟨h1.1,by simp only;omega⟩
   ·cases hq
theorem qzP(w:List Str)(f l:Str): ∀n,n<=w.length->(ocL w f l n).Pairwise ltP∧ ∀p∈ocL w f l n,p.1<n:=by
 intro n
 induction n with
 |zero=>intro _;exact⟨List.Pairwise.nil,λp h=>absurd h List.not_mem_nil⟩
 |succ n ih=>
  intro hn;obtain⟨h1,h2⟩:=ih om;unfold ocL;refine⟨List.pairwise_append.2 ⟨h1,?_,λp hp q hq=> ?_⟩,λp hp=> ?_⟩
  ·unfold ocR;split
   ·split
    ·exact List.pairwise_singleton _ _
    ·exact qzO _ _ _ _
   ·exact List.Pairwise.nil
  ·have:=h2 p hp
   have:=(qlP om hq).1
   exact .inl om
  ·rcases List.mem_append.1 hp with hp|hp
   ·have:=h2 p hp;omega
   ·have:=(qlP om hp).1;omega
theorem qlR{w:List Str}{f l:Str}{i j:Nat}(hi:i<(occ w f l).length)(hj:j<(occ w f l).length)(h:(occ w f l)[i]=(occ w f l)[j]):i=j:=by
 have hp:=List.pairwise_iff_getElem.1 (qzP w f l w.length (nlr _)).1;rcases Nat.lt_trichotomy i j with e|e|e
 ·have:=hp i j hi hj e
  unfold occ at h;rw[h]at this;unfold ltP at this;omega
 ·exact e
 ·have:=hp j i hj hi e
  unfold occ at h;rw[h]at this;unfold ltP at this;omega
def lmF(w:List Str)(a:Nat):Str:=w.getD a []
def lmL(w:List Str)(a b:Nat):Str:=if 1<b-a then w.getD (b-1) [] else []
def lmX(w:List Str)(a b:Nat):List (Nat×Nat):=occ w (lmF w a) (lmL w a b)
def lmP(w:List Str)(a b:Nat):Nat:=if 1<b-a then (ocL w (lmF w a) (lmL w a b) a++ocI w (lmL w a b) a (b-1-(a+1))).length else (ocL w (lmF w a) (lmL w a b) a).length
def lmN(w:List Str)(a b:Nat):Nat:=if (lmX w a b).length=1 then 0 else lmP w a b+1
theorem qhZ{w:List Str}{a b:Nat}(hab:a<b)(hb:b<=w.length)(hw: ∀s∈w,s≠ []): ∃h:lmP w a b<(lmX w a b).length,(lmX w a b)[lmP w a b]=(a,b-1):=by
 unfold lmX lmP;have g: ∀i,i<w.length->w.getD i []≠ []:=λi hi=>hw _ (by rw[gdqA,zH hi];exact List.getElem_mem hi)
 by_cases h:1<b-a
 ·have hl:lmL w a b≠ []:=by unfold lmL;rw[ipo h];exact g _ om
  have he:w.getD (a+1+(b-1-(a+1))) []=lmL w a b:=by unfold lmL;rw[ipo h];congr 1;omega
  obtain⟨h1,h2⟩:=qlU (f:=lmF w a) (d:=b-1-(a+1)) (show a+1+(b-1-(a+1))<w.length by omega) rfl hl he;simp only[ipo h];refine⟨h1,h2.trans ?_⟩;rw[show a+1+(b-1-(a+1))=b-1 by omega]
 ·have e:lmL w a b= []:=by unfold lmL;rw[ine h]
  rw[e];simp only[ine h];obtain⟨h1,h2⟩:=qlS (f:=lmF w a) (show a<w.length by omega) rfl;refine⟨h1,h2.trans ?_⟩;rw[show b-1=a by omega]
theorem qzF{w:List Str}{a b c d:Nat}(hab:a<b)(hb:b<=w.length)(hcd:c<d)(hd:d<=w.length)(hw: ∀s∈w,s≠ [])(h1:lmF w a=lmF w c)(h2:lmL w a b=lmL w c d)(h3:lmN w a b=lmN w c d):a=c∧b=d:=by
 obtain⟨p1,p2⟩:=qhZ hab hb hw;obtain⟨q1,q2⟩:=qhZ hcd hd hw;have e:lmX w a b=lmX w c d:=by unfold lmX;rw[h1,h2]
 have key:lmP w a b=lmP w c d:=by
  unfold lmN at h3;rw[e]at h3 p1;split at h3
  ·omega
  ·omega
 have:((a,b-1):Nat×Nat)=(c,d-1):=by
  rw[<-p2,<-q2];simp only[e,key]
 simp only[Prod.mk.injEq]at this;omega
def shP(n:Nat)(p:Nat×Nat):Nat×Nat:=(n+p.1,n+p.2)
theorem gO(w:List Str)(n i:Nat):(w.drop n).getD i []=w.getD (n+i) []:=by
 rw[gdqA,List.getElem?_drop,gdqA]
theorem qgG(w:List Str)(l:Str)(n i:Nat): ∀d,(ocI (w.drop n) l i d).map (shP n)=ocI w l (n+i) d:=by
 intro d
 induction d with
 |zero=>rfl
 |succ d ih=>
  unfold ocI;rw[List.map_append,ih,gO,show n+i+1+d=n+(i+1+d) by omega];congr 1;split
  ·rfl
  ·rfl
theorem qpZ{w:List Str}{f l:Str}{n:Nat}(hn:n<=w.length)(i:Nat):(ocR (w.drop n) f l i).map (shP n)=ocR w f l (n+i):=by
 unfold ocR;rw[gO,List.length_drop,show w.length-n-(i+1)=w.length-(n+i+1) by omega];split
 ·split
  ·rfl
  ·exact qgG w l n i _
 ·rfl
theorem qpY{w:List Str}{f l:Str}{n:Nat}(hn:n<=w.length): ∀m,ocL w f l (n+m)=ocL w f l n++(ocL (w.drop n) f l m).map (shP n):=by
 intro m
 induction m with
 |zero=>simp[ocL]
 |succ m ih=>
  show ocL w f l (n+m)++ocR w f l (n+m)=_;rw[ih,<-qpZ hn,List.append_assoc,<-List.map_append];rfl
theorem qp0{w:List Str}{f l:Str}{n:Nat}(hn:n<=w.length):occ w f l=ocL w f l n++(occ (w.drop n) f l).map (shP n):=by
 unfold occ;rw[List.length_drop,<-qpY hn,show n+(w.length-n)=w.length by omega]
theorem quf{w:List Str}{a b:Nat}(hab:a<b)(hb:b<=w.length)(hw: ∀s∈w,s≠ []):lmF (w.drop a) 0=lmF w a∧lmL (w.drop a) 0 (b-a)=lmL w a b∧lmN (w.drop a) 0 (b-a)<=lmN w a b:=by
 have e1:lmF (w.drop a) 0=lmF w a:=gO w a 0;have e2:lmL (w.drop a) 0 (b-a)=lmL w a b:=by
  unfold lmL;rw[Nat.sub_zero,gO];split
  ·congr 1;omega
  ·rfl
 refine⟨e1,e2,?_⟩;have hX:=qp0 (f:=lmF w a) (l:=lmL w a b) (show a<=w.length by omega);have e3:lmX (w.drop a) 0 (b-a)=occ (w.drop a) (lmF w a) (lmL w a b):=by unfold lmX;rw[e1,e2]
 have hl:(lmX w a b).length=(ocL w (lmF w a) (lmL w a b) a).length+(lmX (w.drop a) 0 (b-a)).length:=by
  rw[e3];unfold lmX;rw[hX,lap,List.length_map]
 have hP:lmP w a b=(ocL w (lmF w a) (lmL w a b) a).length+lmP (w.drop a) 0 (b-a):=by
  unfold lmP;rw[e1,e2,Nat.sub_zero];split
  ·rw[lap,lap]
   have:=congrArg List.length (qgG w (lmL w a b) a 0 (b-1-(a+1)))
   rw[List.length_map]at this;rw[show b-a-1-(0+1)=b-1-(a+1) by omega,this];show _=_+(0+_);rw[Nat.zero_add];rfl
  ·rfl
 have h1:=(qhZ (w:=w.drop a) (a:=0) (b:=b-a) om (by rw[List.length_drop];omega) (λs hs=>hw s (List.mem_of_mem_drop hs))).1;unfold lmN;split
 ·exact nzl _
 ·rename_i g;split
  ·rename_i g2;exact absurd g2 om
  ·omega
end RC
end
section
open Go Go.Proofs AF
def je:List Nat:= []
def kA:C:=
 (vS [O1 1 (.box 0 119) 0,vM 2 0] ((vS [vL 6 4 1,LD 7 6,vN 8 .lss 7 0,MV 9 8,vZ 10 9 4 1,v6 11 9 10,vR 12 9 (.bin .gtr) 11 (i6 31),PT 13 9 12] (vT 13 (vV [vM 2 2]))).seq (vS [vL
 14 4 1,LD 15 14,vN 16 .and 15 2,vN 17 .neq 16 0,vL 18 4 1,LD 19 18,vN 20 .and 19 8,vN 21 .neq 20 0,MV 3 17,MV 4 21] ((vS [MV 22 3,MV 23 22,MG 24 23 true 4,PF 25 23 24] (vT 25
 (vV [vM 2 8]))).seq (vS [MC 5 (.fn (Fn.func 145) [] [])] ((vS [MV 26 3] (vT 26 (vW [MC 5 (.fn (Fn.func 256) [] [])]))).seq ((vS [MV 27 4] (vT 27 (vW [MC 5 (.fn (Fn.func 257) []
 [])]))).seq ((C.block 0 ((vS [MV 29 5,vL 30 0 1,LD 31 30,O2 32 .callv 29 31,O1 33 (.un UnOp.not) 32,MV 28 33] (C.cond (.t 28) C.skip (vS [O1 34 (.load (some 6)) 1,O1 35 (.call
 258 true) 34,MV 36 35,P1 37 36 true (.fldA 1) 1,P1 38 36 true (.load none) 37,P1 39 36 true (.call 259 true) 38,P1 40 36 true (.un UnOp.not) 39,PF 41 36 40,MV 28 41] (C.cond
 (.t 28) C.skip (vW [O1 42 (.load (some 6)) 1,O1 43 (.call 258 true) 42,O1 44 (.un UnOp.not) 43,MV 45 44,P1 46 45 true (.fldA 1) 1,P1 47 45 true (.load none) 46,P1 48 45 true
 (.fldA 0) 1,P1 49 45 true (.load none) 48,P2 50 45 true (.bin .neq) 47 49,PF 51 45 50,MV 28 51]))))).seq (C.cond (.t 28) (vV [vM 2 11]) (vS [vL 53 2 1,vL 54 1 53,LD 55 54,vN 56
 .lss 55 0,MV 52 56] (C.cond (.t 52) (vV [vM 2 2]) (vS [vL 58 2 1,vL 59 0 58,LD 60 59,O1 61 (.call 260 true) 60,O1 62 (.un UnOp.not) 61,MV 63 62,vZ 64 63 5 1,v6 65 63 64,vO 66
 63 (.call 260 true) 65,vO 67 63 (.un UnOp.not) 66,PT 68 63 67,MV 57 68] (vT 57 (vV [vM 2 14])))))))).seq (vV [vM 2 0])))))))))
theorem jg:qK Tryz.prog 185 69 1 [RV.tmp 2] kA:=fi Tryz.f185 [1] je []
def qdg:C:=
 (vS [MC 2 (.bool false)] ((vS [MV 5 0,O1 6 .slen 5,vN 7 .lss 6 3,MV 8 7,vQ 9 8 0,vR 10 8 .sidx 9 (i6 0),vR 11 8 (.bin .neq) 10 (.int .u8 91),PT 12 8 11,MV 13 12,vQ 14 13 0,vQ 15
 13 0,vO 16 13 .slen 15,vR 17 13 (.bin .sub) 16 (i6 1),vP 18 13 .sidx 14 17,vR 19 13 (.bin .neq) 18 (.int .u8 93),PT 20 13 19] (vT 20 (vV [MC 2 (.bool false)]))).seq (vS [MV 22
 0,MV 23 0,O1 24 .slen 23,vN 25 .sub 24 1,ON 26 (.sslc true true) [.t 22,.c (i6 1),.t 25],O1 27 (.call 195 true) 26,MV 21 27,O1 28 (.ext 0) 21,O1 29 (.ext 1) 21,MV 3 28,MV 4 29]
 (vV [MV 30 4,O1 31 (.isnil .iface false) 30,MV 32 31,MG 33 32 true 3,PC 34 32 true (.bin .geq) 33 (i6 1),PF 35 32 34,MV 36 35,MG 37 36 true 3,PC 38 36 true (.bin .leq) 37 (i6
 64),PF 39 36 38,MV 40 39,MG 41 40 true 0,MG 42 40 true 3,P1 43 40 true (.call 116 true) 42,PN 44 40 true (.bin .add) [.c (.str [91]),.t 43],PC 45 40 true (.bin .add) 44 (.str
 [93]),P2 46 40 true (.bin .eql) 41 45,PF 47 40 46,MV 2 47]))))
theorem qbb:qK Tryz.prog 256 48 0 [RV.tmp 2] qdg:=fi Tryz.f256 [] je []
def qoI:C:=
 (vS [MC 2 (.bool false)] ((vS [MV 4 0,O1 5 .slen 4,vN 6 .neq 5 1] (vT 6 (vV [MC 2 (.bool false)]))).seq (vS [MV 7 0,OC 8 .sidx 7 (i6 0),O1 9 (.call 220 true) 8,MV 3 9] (vV [MV
 10 3,vN 11 .eql 10 5,MV 12 11,vQ 13 12 3,vR 14 12 (.bin .eql) 13 (i6 4),PT 15 12 14,MV 2 15]))))
theorem qk8:qK Tryz.prog 257 16 0 [RV.tmp 2] qoI:=fi Tryz.f257 [] je []
def qwY:C:=
 (vS [O1 1 (.box 0 119) 0,MC 2 (.bool false)] (vV [vL 3 4 1,LD 4 3,vN 5 .and 4 10,vN 6 .eql 5 0,MV 2 6]))
theorem qyz:qK Tryz.prog 258 7 1 [RV.tmp 2] qwY:=fi Tryz.f258 [1] je []
def qwZ:C:=
 (vS [MC 2 (.bool false)] ((vS [MV 4 0,O1 5 .slen 4,vM 6 0] (C.block 0 (vS [BI 7 .lss 6 5] ((vU 7 0).seq ((C.block 1 (vS [MV 8 6,MV 3 8] (vS [MV 9 0,MV 10 3,O2 11 .sidx 9 10,O1
 12 (.call 309 true) 11,O1 13 (.un UnOp.not) 12] (vT 13 (vV [MC 2 (.bool false)]))))).seq (vW [vN 14 .add 6 1,MV 6 14])))).loop)).seq (vV [MV 15 0,BC 16 .neq 15 (.str []),MV 17
 16,MG 18 17 true 0,P1 19 17 true .slen 18,PC 20 17 true (.bin .leq) 19 (i6 64),PF 21 17 20,MV 2 21])))
theorem qyA:qK Tryz.prog 259 22 0 [RV.tmp 2] qwZ:=fi Tryz.f259 [] je []
def qsV:C:=
 (vS [MC 2 (.bool false)] (vV [MV 3 0,BC 4 .eql 3 (.str []),MV 5 4,vQ 6 5 0,vO 7 5 (.call 181 true) 6,PT 8 5 7,MV 2 8]))
theorem qrP:qK Tryz.prog 260 9 0 [RV.tmp 2] qsV:=fi Tryz.f260 [] je []
def qoJ:C:=
 (vS [MC 2 (.bool false)] (vS [MV 4 0,O1 5 (.call 220 true) 4,MV 3 5] (vV [MV 6 0,O1 7 (.call 357 true) 6,MV 8 7,vQ 9 8 3,vR 10 8 (.bin .eql) 9 (i6 2),PT 11 8 10,MV 12 11,vQ 13
 12 3,vR 14 12 (.bin .eql) 13 (i6 4),PT 15 12 14,MV 2 15])))
theorem qk9:qK Tryz.prog 309 16 0 [RV.tmp 2] qoJ:=fi Tryz.f309 [] je []
def qs1:C:=
 (vS [MC 2 (.bool false)] (vS [MV 4 0,O1 5 (.call 220 true) 4,MV 3 5] (vV [MV 6 3,vN 7 .eql 6 1,MV 8 7,vQ 9 8 3,vR 10 8 (.bin .eql) 9 (i6 3),PT 11 8 10,MV 2 11])))
theorem qrV:qK Tryz.prog 357 12 0 [RV.tmp 2] qs1:=fi Tryz.f357 [] je []
def qBN:C:=
 (vS [O1 1 (.box 0 26) 0,vM 2 0] ((vS [vL 4 0 1,LD 5 4,vL 6 1 1,LD 7 6,vL 8 2 1,LD 9 8,ON 10 (.call 111 true) [.t 5,.t 7,.t 9],MV 3 10] (vS [MV 11 3,vN 12 .neq 11 0] (vT 12 (vV
 [MV 13 3,MV 2 13])))).seq ((vS [vL 14 2 1,LD 15 14,vL 16 3 1,LD 17 16,O2 18 (.call 112 true) 15 17,vN 19 .neq 18 0] (vT 19 (vV [vM 2 19]))).seq (vV [vM 2 0]))))
theorem qzb:qK Tryz.prog 47 20 1 [RV.tmp 2] qBN:=fi Tryz.f47 [1] je []
def qj4:C:=
 (vS [vM 6 0] ((C.block 0 (vS [MV 12 0,O1 13 (.call 181 true) 12,O1 14 (.un UnOp.not) 13,MV 11 14] (C.cond (.t 11) (vV [vM 6 14]) (vS [MV 16 1,O1 17 .len 16,vN 18 .eql 17 0,MV 15
 18] (C.cond (.t 15) (vV [vM 6 5]) (vS [MV 20 1,O1 21 .len 20,vN 22 .gtr 21 32,MV 19 22] (vT 19 (vV [vM 6 4])))))))).seq ((vS [MV 23 1,O1 24 .len 23,vM 25 0] (C.block 1 (vS [BI
 26 .lss 25 24] ((vU 26 1).seq ((C.block 2 (vS [MV 27 25,O2 28 (.idxA 1) 23 25,LD 29 28,MV 7 27,MV 8 29] ((vS [MV 30 8,O1 31 (.call 182 true) 30,O1 32 (.un UnOp.not) 31] (vT 32
 (vV [vM 6 14]))).seq (vS [MV 33 1,MV 34 7,O2 35 (.slc 1 false true) 33 34,MV 36 8,O2 37 (.call 128 true) 35 36] (vT 37 (vV [vM 6 7])))))).seq (vW [vN 38 .add 25 1,MV 25
 38])))).loop)).seq ((vS [MV 39 2,O1 40 .len 39,MV 41 1,O1 42 .len 41,BI 43 .neq 40 42] (vT 43 (vV [vM 6 9]))).seq ((vS [MV 44 2,O1 45 .len 44,vM 46 0] (C.block 3 (vS [BI 47
 .lss 46 45] ((vU 47 3).seq ((C.block 4 (vS [O2 48 (.idxA 1) 44 46,LD 49 48,MV 10 49] ((vS [MV 50 10,O1 51 .len 50,vN 52 .gtr 51 1024] (vT 52 (vV [vM 6 4]))).seq (vS [MV 53
 10,OC 54 (.call 183 true) 53 (.fn (Fn.func 184) [] [])] (vT 54 (vV [vM 6 1])))))).seq (vW [vN 55 .add 46 1,MV 46 55])))).loop)).seq (vV [vM 6 0]))))))
theorem qgs:qK Tryz.prog 111 56 0 [RV.tmp 6] qj4:=fi Tryz.f111 [] je []
def qwH:C:=
 (vS [O1 1 (.box 0 119) 0,MC 2 (.bool false)] (vV [O1 3 (.load (some 6)) 1,O1 4 (.call 185 true) 3,vN 5 .neq 4 0,MV 2 5]))
theorem qyg:qK Tryz.prog 184 6 1 [RV.tmp 2] qwH:=fi Tryz.f184 [1] je []
def qj7:C:=
 (vS [MC 2 (.bool false)] (vS [MV 6 0,OC 7 (.call 254 true) 6 (.str [42]),MV 5 7,O1 8 (.ext 0) 5,O1 9 (.ext 1) 5,MV 3 8,MV 4 9] (vV [MV 10 3,O1 11 (.call 181 true) 10,MV 12 11,MG
 13 12 true 4,P1 14 12 true (.un UnOp.not) 13,MG 15 12 true 14,vQ 16 15 0,vO 17 15 .slen 16,vR 18 15 (.bin .leq) 17 (i6 16),QT 19 12 true 15 18,PF 20 12 19,MV 2 20])))
theorem qgv:qK Tryz.prog 182 21 0 [RV.tmp 2] qj7:=fi Tryz.f182 [] je []
def qwI:C:=
 (vS [vM 2 0] ((C.block 0 (vS [MV 4 0,O1 5 .len 4,vN 6 .eql 5 0,MV 3 6] (C.cond (.t 3) (vV [vM 2 5]) (vS [MV 8 0,O1 9 .len 8,vN 10 .gtr 9 32,MV 11 10,vQ 12 11 0,vR 13 11 (.call
 261 true) 12 (.fn (Fn.func 262) [] []),PT 14 11 13,MV 7 14] (vT 7 (vV [vM 2 4])))))).seq (vV [vM 2 0])))
theorem qyh:qK Tryz.prog 186 15 0 [RV.tmp 2] qwI:=fi Tryz.f186 [] je []
def qw0:C:=
 (vS [MC 2 (.bool false)] (vV [MV 3 0,O1 4 .len 3,vN 5 .gtr 4 1024,MV 2 5]))
theorem qyC:qK Tryz.prog 262 6 0 [RV.tmp 2] qw0:=fi Tryz.f262 [] je []
def qwp:C:=
 (vS [vM 4 0] ((vS [MV 6 0,O1 7 (.call 186 true) 6,MV 5 7] (vS [MV 8 5,vN 9 .neq 8 0] (vT 9 (vV [MV 10 5,MV 4 10])))).seq ((vS [MV 11 0,MV 12 1,O2 13 (.call 187 true) 11 12,O1 14
 (.un UnOp.not) 13] (vT 14 (vV [vM 4 19]))).seq (vV [vM 4 0]))))
theorem qxV:qK Tryz.prog 112 15 0 [RV.tmp 4] qwp:=fi Tryz.f112 [] je []
def qwJ:C:=
 (vS [MC 4 (.bool false)] (vS [MV 12 0,O1 13 .len 12,⟨some 14,none,.mkslc 0 1 3 [i6 0] 8,[.t 13,.t 13]⟩,MV 5 14] ((vS [MV 15 1,O1 16 .len 15,vM 17 0] (C.block 0 (vS [BI 18 .lss
 17 16] ((vU 18 0).seq ((C.block 1 (vS [O2 19 (.idxA 1) 15 17,LD 20 19,MV 7 20] ((vS [MV 21 7,O1 22 .len 21,MV 23 0,O1 24 .len 23,BI 25 .neq 22 24] (vT 25 (vV [MC 4 (.bool
 false)]))).seq (vS [MC 8 (.bool false)] ((vS [MV 26 7,O1 27 .len 26,vM 28 0] (C.block 2 (vS [BI 29 .lss 28 27] ((vU 29 2).seq ((C.block 3 (vS [MV 30 28,O2 31 (.idxA 1) 26 28,LD
 32 31,MV 9 30,MV 10 32] ((vS [MV 33 10,BC 34 .eql 33 (i6 (-1))] (vT 34 (C.exit 3))).seq ((vS [MV 35 10,MV 36 5,MV 37 9,O2 38 (.idxA 1) 36 37,LD 39 38,BI 40 .neq 35 39,MV 41
 40,vQ 42 41 10,vQ 43 41 0,vQ 44 41 9,vP 45 41 (.idxA 1) 43 44,v6 46 41 45,vO 47 41 .len 46,vP 48 41 (.bin .geq) 42 47,PT 49 41 48] (vT 49 (vV [MC 4 (.bool false)]))).seq (vS
 [MV 50 5,MV 51 9,O2 52 (.idxA 1) 50 51,LD 53 52,vN 54 .add 53 1,O2 55 (.idxA 1) 50 51,ST 1 55 54] (vW [MC 8 (.bool true)])))))).seq (vW [vN 56 .add 28 1,MV 28
 56])))).loop)).seq (vS [MV 57 8,O1 58 (.un UnOp.not) 57] (vT 58 (vV [MC 4 (.bool false)])))))))).seq (vW [vN 59 .add 17 1,MV 17 59])))).loop)).seq ((vS [MV 60 0,O1 61 .len
 60,vM 62 0] (C.block 4 (vS [BI 63 .lss 62 61] ((vU 63 4).seq ((C.block 5 (vS [MV 64 62,MV 11 64] (vS [MV 65 5,MV 66 11,O2 67 (.idxA 1) 65 66,LD 68 67,MV 69 0,MV 70 11,O2 71
 (.idxA 1) 69 70,LD 72 71,O1 73 .len 72,BI 74 .neq 68 73] (vT 74 (vV [MC 4 (.bool false)]))))).seq (vW [vN 75 .add 62 1,MV 62 75])))).loop)).seq (vV [MC 4 (.bool true)])))))
theorem qyi:qK Tryz.prog 187 76 1 [RV.tmp 4] qwJ:=fi Tryz.f187 [14] je []
end
section
namespace Go.Proofs
open Go.Shelf Go.RowKit Go.Lib
set_option maxHeartbeats 1000000 in
set_option maxRecDepth 100000 in
theorem qkD(s:ByteArray)(c:UInt8)(w:World):
  Calls Tryz.prog 267 #[.string s,.string ⟨#[c]⟩] w λe w'=>e= .returned (.int .i64 (Lib.countByte s.data.toList c))∧w'=w:=by
 go_enter Tryz.func267,Tryz.ntmps267
 go_wp2
 rw[run_callFunc_extern Tryz.func318 (by kernel_rfl) (by kernel_rfl) (by kernel_rfl) (e:=Extern.BytealgCount.count) (by kernel_rfl),Lib.run_countString];simp only[Result.andThen];rw[Oper.upon_value]
 go_wp2
 go_ret
 exact⟨rfl,rfl⟩
set_option maxHeartbeats 2000000 in
set_option maxRecDepth 100000 in
theorem qeD(s:ByteArray)(c:UInt8)(w:World):
  Calls Tryz.prog 269 #[.string s,.string ⟨#[c]⟩] w λe w'=>e= .returned (.int .i64 (Lib.indexByte s.data.toList c))∧w'=w:=by
 have e95: ∀args w,(callFunc 319 args).run Tryz.prog w= .ok (.enter 319 args) w:=enters_of Tryz.func319 (by kernel_rfl) rfl
 go_enter Tryz.func269,Tryz.ntmps269
 go_wp2_with (go_at_fn 319;refine (qgz _ _ _).mono ?_;rintro e w' ⟨rfl,rfl⟩)
 ·have h:([c]==s.toList)=true:=by assumption
  go_ret
  refine⟨?_,rfl⟩;have e:s.data.toList= [c]:=by rw[<-Lib.toList_data];exact (beq_iff_eq.1 h).symm
  rw[e];simp[Lib.indexByte]
 ·go_ret
  exact⟨rfl,rfl⟩
set_option maxHeartbeats 1000000 in
theorem qpO(s:ByteArray)(c:UInt8)(w:World):
  Calls Tryz.prog 268 #[.string s,.string ⟨#[c]⟩] w λe w'=>e= .returned (.int .i64 (Lib.indexByte s.data.toList c))∧w'=w:=by
 have e114: ∀args w,(callFunc 269 args).run Tryz.prog w= .ok (.enter 269 args) w:=enters_of Tryz.func269 (by kernel_rfl) rfl
 go_enter Tryz.func268,Tryz.ntmps268
 go_wp2_with (go_at_fn 269;refine (qeD _ _ _).mono ?_;rintro e w' ⟨rfl,rfl⟩)
 go_ret
 exact⟨rfl,rfl⟩
end Go.Proofs
end
section
open Go Go.Proofs AF HY
namespace HY
theorem qFd(s:List UInt8)(c:UInt8)(h:we):ACalls Tryz.prog 267 [.str s,.str [c]] h (.int .i64 (s.count c)) h:=by
 refine⟨qoh Tryz.func267 (by kernel_rfl) (by kernel_rfl),λw σ xs H hv=> ?_⟩;obtain⟨x,y,rfl,hx,hy⟩:=hv.two;rw[zZ hx,zZ hy];refine (callsIn_wide.2 (qkD ⟨s.toArray⟩ c w)).mono ?_;rintro e w' ⟨rfl,rfl⟩;exact⟨_,σ,rfl,H,.imm .int,Ext.refl _ _⟩
theorem qFe(s:List UInt8)(c:UInt8)(h:we):ACalls Tryz.prog 268 [.str s,.str [c]] h (.int .i64 (Go.Lib.indexByte s c)) h:=by
 refine⟨qoh Tryz.func268 (by kernel_rfl) (by kernel_rfl),λw σ xs H hv=> ?_⟩;obtain⟨x,y,rfl,hx,hy⟩:=hv.two;rw[zZ hx,zZ hy];refine (callsIn_wide.2 (qpO ⟨s.toArray⟩ c w)).mono ?_;rintro e w' ⟨rfl,rfl⟩;exact⟨_,σ,rfl,H,.imm .int,Ext.refl _ _⟩
def UU(c:UInt8)(s:List UInt8):Nat:=(s.takeWhile (· !=c)).length
def cF(c:UInt8)(s:List UInt8):Nat->List UInt8
 |0=>s
 |i+1=>(cF c s i).drop (UU c (cF c s i)+1)
def kF(c:UInt8)(s:List UInt8)(i:Nat):List UInt8:=if i<s.count c then (cF c s i).take (UU c (cF c s i)) else cF c s i
def jN(c:UInt8)(s:List UInt8):List (List UInt8):=(List.range (s.count c+1)).map (kF c s)
theorem qiw(c:UInt8)(s:List UInt8):(jN c s).length=s.count c+1:=by simp[jN]
theorem kJ(c b:UInt8)(s:List UInt8):UU c (b::s)=if b=c then 0 else UU c s+1:=by
 unfold UU;rw[List.takeWhile_cons]
 by_cases e:b=c
 ·simp[e]
 ·simp[e]
theorem qeA(c:UInt8): ∀(s:List UInt8),0<s.count c->Go.Lib.indexByte s c=UU c s:=by
 intro s
 induction s with
 |nil=>intro h;simp at h
 |cons b s ih=>
  intro h;unfold Go.Lib.indexByte;rw[kJ]
  by_cases e:b=c
  ·simp[e]
  ·rw[List.count_cons,ine (by simpa using e)]at h
   have:=ih om
   rw[ine (by simpa using e),ine e,this,ine (by simp<;>omega)];rfl
theorem qo3(c:UInt8): ∀(s:List UInt8),0<s.count c->UU c s<s.length:=by
 intro s
 induction s with
 |nil=>intro h;simp at h
 |cons b s ih=>
  intro h;rw[kJ]
  by_cases e:b=c
  ·simp[e]
  ·rw[List.count_cons,ine (by simpa using e)]at h
   have:=ih om
   rw[ine e,lco];omega
theorem qkE(c:UInt8): ∀(s:List UInt8),0<s.count c->(s.drop (UU c s+1)).count c=s.count c-1:=by
 intro s
 induction s with
 |nil=>intro h;simp at h
 |cons b s ih=>
  intro h;rw[kJ]
  by_cases e:b=c
  ·simp[e]
  ·rw[List.count_cons,ine (by simpa using e)]at h
   have:=ih om
   rw[ine e,List.drop_succ_cons,this,List.count_cons,ine (by simpa using e)];rfl
theorem qhD(c:UInt8)(s:List UInt8): ∀i,i<=s.count c->(cF c s i).count c=s.count c-i:=by
 intro i
 induction i with
 |zero=>intro _;rfl
 |succ i ih=>
  intro h
  have:=ih om
  show ((cF c s i).drop _).count c=_;rw[qkE _ _ om,this];omega
theorem qqF(c:UInt8)(s:List UInt8): ∀i,(cF c s i).length<=s.length:=by
 intro i
 induction i with
 |zero=>exact nlr _
 |succ i ih=>show ((cF c s i).drop _).length<=_;rw[List.length_drop];omega
def UN(c:UInt8)(s:List UInt8)(i:Nat):List (List UInt8):=(List.range (s.count c+1)).map λj=>if j<i then kF c s j else []
theorem qe4(c:UInt8)(s:List UInt8)(i:Nat):(UN c s i).length=s.count c+1:=by simp[UN]
theorem qng(c:UInt8)(s:List UInt8){i:Nat}(hi:i<s.count c+1):(UN c s i).set i (kF c s i)=UN c s (i+1):=by
 apply List.ext_getElem
 ·simp[UN]
 ·intro j h1 h2;simp only[UN,List.length_set,List.length_map,List.length_range]at h1;rw[List.getElem_set];simp only[UN,List.getElem_map,List.getElem_range]
  by_cases e:i=j
  ·subst e;simp
  ·rw[ine e]
   by_cases e2:j<i
   ·rw[ipo e2,ipo om]
   ·rw[ine e2,ine om]
theorem qnf(c:UInt8)(s:List UInt8):UN c s (s.count c+1)=jN c s:=by
 unfold UN jN;apply List.map_congr_left;intro j hj;rw[ipo (by simpa using hj)]
theorem qq0(L:List (List UInt8)){i:Nat}(x:List UInt8)(hi:i<L.length):List.take i (jH L)++ [.str x]++List.drop (i+1) (jH L)=jH (L.set i x):=by
 unfold jH;rw[List.map_set,List.set_eq_take_append_cons_drop,ipo (by simpa using hi),List.append_assoc];rfl
theorem qh1(n:Nat):zf [.str []] n=jH (List.replicate n []):=by
 induction n with
 |zero=>rfl
 |succ n ih=>simp only[zf,ih,List.replicate_succ];rfl
theorem qiz(c:UInt8)(s:List UInt8):List.replicate (s.count c+1) []=UN c s 0:=by
 apply List.ext_getElem
 ·simp[UN]
 ·intro j h1 h2;simp[UN]
end HY
end
section
open Go Go.Proofs AF HY LN
namespace RC
theorem qvR{s:Str}(h:jr s=true): ∀c∈s,kind c≠0∧kind c≠6:=by
 unfold jr at h;simp only[Bool.and_eq_true,decide_eq_true_eq,Bool.not_eq_true',List.any_eq_false,Bool.or_eq_true,not_or]at h;obtain⟨⟨⟨⟨_,h2⟩,h3⟩,_⟩,h5⟩:=h;intro c hc;refine⟨λe=> ?_,(h5 c hc).2⟩;rw[gK,ine om]at h3;obtain⟨i,hi,rfl⟩:=List.getElem_of_mem hc;have hb:kz s i=true:=by
  unfold kz
  have:ch s i=s[i]:=by unfold ch;rw[gdqA,zH hi];rfl
  rw[this,dqt e,Bool.true_or]
 rw[ipo (kH hi hb)]at h3;cases h3
theorem qlz{n:Int}(h0:0<=n): ∀c∈Lib.itoa n,48<=c.toNat∧c.toNat<=57:=by
 obtain⟨u,rfl⟩: ∃u:Nat,n=u:=⟨n.toNat,om⟩
 rw[Lib.itoa_nonneg];exact qcL u
theorem kG{s:Str}(h:zW s=true):s.count 32=0∧s.count 35=0∧s≠ []:=by
 have key: ∀c∈s,c≠32∧c≠35:=by
  intro c hc;unfold zW at h;rcases Bool.or_eq_true_iff.1 h with h|h
  ·have:=qvR h c hc
   refine⟨?_,?_⟩<;>rintro rfl
   ·exact this.2 (by decide)
   ·exact this.1 (by decide)
  ·split at h
   ·rename_i h1;obtain⟨a,rfl⟩:=List.length_eq_one_iff.1 h1;rw[List.mem_singleton]at hc;subst hc;have e:ch [c] 0=c:=rfl;rw[e]at h;refine⟨?_,?_⟩<;>rintro rfl<;>revert h<;>decide
   ·unfold qdo at h;rw[List.any_eq_true]at h;obtain⟨k,_,e⟩:=h;rw[of_decide_eq_true e,List.mem_cons,List.mem_append,List.mem_singleton]at hc;rcases hc with rfl|hc|rfl
    ·decide
    ·have:=qlz (show (0:Int)<=((k+1:Nat):Int) by omega) c hc
     refine⟨?_,?_⟩<;>rintro rfl
     ·have:(48:Nat)<=32:=this.1
      omega
     ·have:(48:Nat)<=35:=this.1
      omega
    ·decide
 refine⟨List.count_eq_zero.2 λhc=>(key 32 hc).1 rfl,List.count_eq_zero.2 λhc=>(key 35 hc).2 rfl,?_⟩;rintro rfl;revert h;decide
theorem qcn{s:Str}(h:zW s=true):s.length<=64:=by
 unfold zW at h;rcases Bool.or_eq_true_iff.1 h with h|h
 ·unfold jr at h;simp only[Bool.and_eq_true,decide_eq_true_eq]at h;exact h.1.1.1.2
 ·split at h
  ·omega
  ·unfold qdo at h;rw[List.any_eq_true]at h;obtain⟨k,hk,e⟩:=h;have hk:=List.mem_range.1 hk
   have:=qdv (show k+1<=64 by omega)
   rw[of_decide_eq_true e,lco,lap,List.length_singleton];omega
theorem qkF{c:UInt8}: ∀ {A B:Str},A.count c=0->UU c (A++c::B)=A.length:=by
 intro A
 induction A with
 |nil=>intro B _;rw[lna,kJ,ipo rfl];rfl
 |cons a A ih=>
  intro B h;rw[List.count_cons]at h;have ha: ¬a=c:=λe=>by subst e;simp at h
  rw[lca,kJ,ine ha,ih om];rfl
theorem qch{c:UInt8}{s:Str}(h:s.count c=0):jN c s= [s]:=by
 unfold jN;rw[h];show [kF c s 0]= [s];unfold kF;rw[ine om];rfl
theorem qmG(c:UInt8)(s:Str): ∀i,cF c s (i+1)=cF c (s.drop (UU c s+1)) i:=by
 intro i
 induction i with
 |zero=>rfl
 |succ i ih=>
  show (cF c s (i+1)).drop (UU c (cF c s (i+1))+1)=_;rw[ih];rfl
theorem qc7{c:UInt8}{A B:Str}(h:A.count c=0):jN c (A++c::B)=A::jN c B:=by
 have e1:=qkF (B:=B) h;have e2:(A++c::B).count c=B.count c+1:=by rw[List.count_append,h,List.count_cons_self];omega
 have e3:(A++c::B).drop (A.length+1)=B:=by simp
 unfold jN;rw[e2,List.range_succ_eq_map,List.map_cons,List.map_map];congr 1
 ·unfold kF;rw[ipo om];show (A++c::B).take (UU c (A++c::B))=A;rw[e1];simp
 ·refine List.map_congr_left λi _=> ?_
  show kF c (A++c::B) (i+1)=kF c B i;unfold kF;rw[qmG,e1,e3,e2]
  by_cases hi:i<B.count c
  ·rw[ipo om,ipo hi]
  ·rw[ine om,ine hi]
theorem qlp{c:UInt8}{A B:Str}(h:A.count c=0):Go.Lib.indexByte (A++c::B) c=A.length:=by
 rw[qeA c _ (by rw[List.count_append,List.count_cons_self];omega),qkF h]
def pnN(n:Nat):Str:=if n=0 then [] else 35::Lib.itoa (n:Int)
def prS(f l:Str)(n:Nat):Str:=(if l= [] then f else f++([32,43,32]++l))++pnN n
theorem qz1(n:Nat):(pnN n).count 32=0:=by
 unfold pnN;split
 ·rfl
 ·rw[List.count_eq_zero];intro hc;rcases List.mem_cons.1 hc with e|hc
  ·revert e;decide
  ·have:=qlz (Int.natCast_nonneg n) 32 hc
   have:(48:Nat)<=32:=this.1
   omega
def prP(f l:Str)(n:Nat):List Str:=if l= [] then [f++pnN n] else [f,[43],l++pnN n]
theorem qdG{f l:Str}{n:Nat}(hf:f.count 32=0)(hl:l.count 32=0):jN 32 (prS f l n)=prP f l n:=by
 have hn:=qz1 n;unfold prS prP;split
 ·rw[qch (by rw[List.count_append,hf,hn])]
 ·have e:f++([32,43,32]++l)++pnN n=f++32::([43]++32::(l++pnN n)):=by simp
  rw[e,qc7 hf,qc7 (by decide),qch (by rw[List.count_append,hl,hn])]
theorem UJ{n:Nat}(h:n<=65536):(Lib.itoa (n:Int)).length<=9:=by
 rw[Lib.itoa_nonneg];have key: ∀m u,u<10^(m+1)->(Lib.decDigits u).length<=m+1:=by
  intro m
  induction m with
  |zero=>intro u hu;rw[Lib.decDigits,dif_pos om];simp
  |succ m ih=>
   intro u hu;rw[Lib.decDigits];split
   ·simp
   ·rw[lap,List.length_singleton]
    have:=ih (u/10) (by rw[Nat.pow_succ]at hu;omega)
    omega
 exact Nat.le_trans (key 8 n om) (nlr _)
theorem qz3{f l:Str}{n:Nat}(hf:f.length<=64)(hl:l.length<=64)(hn:n<=65536):(prS f l n).length<=1000∧ ∀s∈prP f l n,s.length<=1000:=by
 have hp:(pnN n).length<=10:=by
  unfold pnN;split
  ·exact nzl _
  ·have:=UJ hn
   rw[lco];omega
 constructor
 ·unfold prS;rw[lap];split
  ·omega
  ·rw[lap,lap];simp only[lco,lnl];omega
 ·intro s hs;unfold prP at hs;split at hs
  ·rw[List.mem_singleton]at hs;subst hs;rw[lap];omega
  ·simp only[List.mem_cons,List.not_mem_nil,or_false]at hs;rcases hs with rfl|rfl|rfl
   ·omega
   ·decide
   ·rw[lap];omega
end RC
end
section
open Go Go.Proofs AF HY LN
namespace RC
theorem qsm{f t:Str}(hf:f.count 35=0)(ht:t= []∨ ∃r,t=35::r):(f++t).takeWhile (· !=35)=f:=by
 induction f with
 |nil=>
  rcases ht with rfl|⟨r,rfl⟩
  ·rfl
  ·rfl
 |cons a f ih=>
  rw[List.count_cons]at hf;have ha:(a !=35)=true:=by
   rw[bne_iff_ne];intro e;subst e;simp at hf
  rw[lca,List.takeWhile_cons,ha,ipo rfl,ih om]
theorem qgK(n:Nat):pnN n= []∨ ∃r,pnN n=35::r:=by
 unfold pnN;split
 ·exact .inl rfl
 ·exact .inr ⟨_,rfl⟩
theorem quO{n m:Nat}(hn:n<=65536)(hm:m<=65536)(h:pnN n=pnN m):n=m:=by
 unfold pnN at h;split at h
 ·split at h
  ·omega
  ·cases h
 ·split at h
  ·cases h
  ·simp only[List.cons.injEq,true_and]at h;have h1:=gz (n:=(n:Int)) om om;have h2:=gz (n:=(m:Int)) om om;rw[h,h2]at h1;cases h1;rfl
theorem qje{f g:Str}{n m:Nat}(hf:f.count 35=0)(hg:g.count 35=0)(hn:n<=65536)(hm:m<=65536)(h:f++pnN n=g++pnN m):f=g∧n=m:=by
 have h1:=qsm hf (qgK n);have h2:=qsm hg (qgK m);rw[h,h2]at h1;subst h1;exact⟨rfl,quO hn hm (List.append_cancel_left h)⟩
structure qrt (f l:Str) (n:Nat):Prop where
 f:zW f=true
 l:l= []∨zW l=true
 n:n<=65536
theorem qrt.cs{f l:Str}{n:Nat}(h:qrt f l n):f.count 32=0∧f.count 35=0∧l.count 32=0∧l.count 35=0∧f.length<=64∧l.length<=64:=by
 obtain⟨a1,a2,_⟩:=kG h.f;have a3:=qcn h.f;rcases h.l with rfl|hl
 ·exact⟨a1,a2,rfl,rfl,a3,nzl _⟩
 ·obtain⟨b1,b2,_⟩:=kG hl;exact⟨a1,a2,b1,b2,a3,qcn hl⟩
theorem quP{f l g k:Str}{n m:Nat}(h1:qrt f l n)(h2:qrt g k m)(h:prS f l n=prS g k m):f=g∧l=k∧n=m:=by
 obtain⟨a1,a2,a3,a4,_⟩:=h1.cs;obtain⟨b1,b2,b3,b4,_⟩:=h2.cs;have e:=qdG (n:=n) a1 a3;rw[h,qdG b1 b3]at e;unfold prP at e;split at e
 ·rename_i hk;split at e
  ·rename_i hl;simp only[List.cons.injEq,and_true]at e;obtain⟨r1,r2⟩:=qje b2 a2 h2.n h1.n e;exact⟨r1.symm,by rw[hl,hk],r2.symm⟩
  ·simp at e
 ·split at e
  ·simp at e
  ·simp only[List.cons.injEq,and_true,true_and]at e;obtain⟨r1,r2⟩:=qje b4 a4 h2.n h1.n e.2;exact⟨e.1.symm,r1.symm,r2.symm⟩
theorem qh0{w:List Str}{a b:Nat}(hw: ∀s∈w,zW s=true)(hab:a<b)(hb:b<=w.length)(hn:w.length<=100):qrt (lmF w a) (lmL w a b) (lmN w a b):=by
 have g: ∀i,i<w.length->zW (w.getD i [])=true:=λi hi=>hw _ (by rw[gdqA,zH hi];exact List.getElem_mem hi)
 have hne: ∀s∈w,s≠ []:=λs hs=>(kG (hw s hs)).2.2
 refine⟨g a om,?_,?_⟩
 ·unfold lmL;split
  ·exact .inr (g _ om)
  ·exact .inl rfl
 ·obtain⟨h1,_⟩:=qhZ hab hb hne;have h2: ∀n,n<=w.length->(ocL w (lmF w a) (lmL w a b) n).length<=n*100:=by
   intro n
   induction n with
   |zero=>intro _;exact nzl _
   |succ n ih=>
    intro hn';have h3:=ih om;have h4: ∀d,(ocI w (lmL w a b) n d).length<=d:=by
     intro d
     induction d with
     |zero=>exact nlr _
     |succ d ih=>
      unfold ocI;rw[lap];split
      ·simp only[lco,lnl];omega
      ·simp only[lnl];omega
    unfold ocL;rw[lap];have h5:(ocR w (lmF w a) (lmL w a b) n).length<=100:=by
     unfold ocR;split
     ·split
      ·simp
      ·have:=h4 (w.length-(n+1));omega
     ·simp
    omega
  have h6:=h2 w.length (nlr _);have h7:(lmX w a b).length<=w.length*100:=h6;unfold lmN;split
  ·omega
  ·omega
def lmS(w:List Str)(a b:Nat):Str:=prS (lmF w a) (lmL w a b) (lmN w a b)
theorem qlA{w:List Str}{a b c d:Nat}(hw: ∀s∈w,zW s=true)(hn:w.length<=100)(hab:a<b)(hb:b<=w.length)(hcd:c<d)(hd:d<=w.length)(h:lmS w a b=lmS w c d):a=c∧b=d:=by
 obtain⟨h1,h2,h3⟩:=quP (qh0 hw hab hb hn) (qh0 hw hcd hd hn) h;exact qzF hab hb hcd hd (λs hs=>(kG (hw s hs)).2.2) h1 h2 h3
def seR(w:List Str)(a:Nat):Nat->List Str
 |0=> []
 |d+1=>seR w a d++ [lmS w a (a+1+d)]
def seL(w:List Str):Nat->List Str
 |0=> []
 |a+1=>seL w a++seR w a (w.length-a)
theorem qmU{w:List Str}{a:Nat}{s:Str}: ∀ {d:Nat},s∈seR w a d↔ ∃i,i<d∧s=lmS w a (a+1+i):=by
 intro d
 induction d with
 |zero=>exact⟨λh=>absurd h List.not_mem_nil,λ⟨i,h,_⟩=>absurd h (nnz i)⟩
 |succ d ih=>
  unfold seR;rw[List.mem_append,ih,List.mem_singleton];constructor
  ·rintro (⟨i,h1,h2⟩|h)
   ·exact⟨i,om,h2⟩
   ·exact⟨d,Nat.lt_succ_self d,h⟩
  ·rintro⟨i,h1,h2⟩
   by_cases e:i=d
   ·subst e;exact .inr h2
   ·exact .inl ⟨i,om,h2⟩
theorem qvb{w:List Str}{s:Str}: ∀ {n:Nat},s∈seL w n-> ∃a b,a<n∧a<b∧b<=w.length∧s=lmS w a b:=by
 intro n
 induction n with
 |zero=>intro h;cases h
 |succ n ih=>
  intro h;unfold seL at h;rcases List.mem_append.1 h with h|h
  ·obtain⟨a,b,h1,h2⟩:=ih h;exact⟨a,b,om,h2⟩
  ·obtain⟨i,h1,h2⟩:=qmU.1 h;exact⟨n,n+1+i,om,om,om,h2⟩
theorem qAk{w:List Str}(hw: ∀s∈w,zW s=true)(hn:w.length<=100){a d:Nat}(h:a+1+d<=w.length):lmS w a (a+1+d)∉seL w a++seR w a d:=by
 intro hc;rcases List.mem_append.1 hc with hc|hc
 ·obtain⟨c,b,h1,h2,h3,h4⟩:=qvb hc
  have:=qlA hw hn (show a<a+1+d by omega) h h2 h3 h4
  omega
 ·obtain⟨i,h1,h2⟩:=qmU.1 hc
  have:=qlA hw hn (show a<a+1+d by omega) h (show a<a+1+i by omega) om h2
  omega
end RC
namespace AF
def qoc(m:List (List UInt8)):List (AV×AV):=m.map λs=>(.str s,.bool true)
theorem qaS(s:List UInt8): ∀(m:List (List UInt8)) (i:Nat),s∉m->DV .str (.str s) (qoc m) i=some none:=by
 intro m
 induction m with
 |nil=>intro i _;rfl
 |cons k m ih=>
  intro i h;rw[List.mem_cons,not_or]at h;have e:DV .str (.str s) (qoc (k::m)) i=match some (decide (s=k))with
   |some true=>some (some (i,AV.bool true))
   |some false=>DV .str (.str s) (qoc m) (i+1)
   |none=>none:=rfl
  rw[e,dqf h.1];exact ih (i+1) h.2
theorem qlH{s:List UInt8}{m:List (List UInt8)}{z:AV}(h:s∉m):qeJ .str (.str s) z (qoc m)=(z,false):=by
 unfold qeJ;rw[qaS s m 0 h]
theorem qlK{s:List UInt8}{m:List (List UInt8)}(h:s∉m):qpU .str (.str s) (.bool true) (qoc m)=qoc (m++ [s]):=by
 unfold qpU;rw[qaS s m 0 h];simp[qoc]
theorem qdx{s:List UInt8}{m:List (List UInt8)}(h:s∉m):(DV .str (.str s) (qoc m) 0).isSome=true:=by
 rw[qaS s m 0 h];rfl
end AF
end
section
open Go Go.Proofs AF
def W0:List Nat:= []
def qwq:C:=
 (vS [vM 2 0] ((C.block 0 (vS [MV 4 0,O1 5 .len 4,vN 6 .gtr 5 4096,MV 3 6] (C.cond (.t 3) (vV [vM 2 4]) (vS [MV 8 0,OC 9 (.call 188 true) 8 (.fn (Fn.func 189) [] []),MV 7 9] (vT
 7 (vV [vM 2 11])))))).seq (vV [vM 2 0])))
theorem qxW:qK Tryz.prog 113 10 0 [RV.tmp 2] qwq:=fi Tryz.f113 [] W0 []
def qsP:C:=
 (vS [MC 2 (.bool false)] (vV [MV 3 0,O1 4 (.call 190 true) 3,O1 5 (.un UnOp.not) 4,MV 2 5]))
theorem qrI:qK Tryz.prog 189 6 0 [RV.tmp 2] qsP:=fi Tryz.f189 [] W0 []
def qwr:C:=
 (vS [O1 3 (.box 0 22) 0,O1 4 (.box 1 9) 1,O1 5 (.box 2 9) 2,MC 6 .nilfn] (vV [ON 7 (.mkfn (Fn.func 191) 0) [.t 3,.t 4,.t 5],MV 6 7]))
theorem qxX:qK Tryz.prog 114 8 3 [RV.tmp 6] qwr:=fi Tryz.f114 [3,4,5] W0 []
def qwK:C:=
 (vS [LD 8 1,O1 9 .len 8,vM 10 0] (C.block 0 (vS [BI 11 .lss 10 9] ((vU 11 0).seq ((C.block 1 (vS [MV 12 10,O2 13 (.idxA 1) 8 10,LD 14 13,MV 5 12,MV 6 14] ((vS [MV 15 6,LD 16
 2,BI 17 .neq 15 16] (vT 17 (C.exit 1))).seq ((vS [LD 18 3,BC 19 .eql 18 (.str [])] (vT 19 ((vS [MV 20 0,MV 21 5,MV 22 5,ON 23 .callv [.t 20,.t 21,.t 22],O1 24 (.un UnOp.not)
 23] (vT 24 C.ret)).seq (C.exit 1)))).seq (vS [MV 25 5,vN 26 .add 25 1,MV 7 26] (C.block 2 ((vS [MV 27 7,LD 28 1,O1 29 .len 28,BI 30 .lss 27 29] (vU 30 2)).seq ((C.block 3 (vS
 [LD 33 1,MV 34 7,O2 35 (.idxA 1) 33 34,LD 36 35,LD 37 3,BI 38 .eql 36 37,MV 39 38,MG 40 39 true 0,MG 41 39 true 5,MG 42 39 true 7,PN 43 39 true .callv [.t 40,.t 41,.t 42],P1 44
 39 true (.un UnOp.not) 43,PF 45 39 44] (vT 45 C.ret))).seq (vX 31 7))).loop)))))).seq (vW [vN 46 .add 10 1,MV 10 46])))).loop))
theorem qyk:qK Tryz.prog 191 47 0 [] qwK:=fi Tryz.f191 [] W0 []
def qsQ:C:=
 (vS [MC 4 (.str []),MC 5 (.str []),MC 6 (.bool false)] ((vS [MV 8 0,MV 9 1,O2 10 (.call 269 true) 8 9,MV 7 10] (vS [MV 11 7,vN 12 .geq 11 0] (vT 12 (vV [MV 13 0,MV 14 7,O2 15
 (.sslc false true) 13 14,MV 16 0,MV 17 7,MV 18 1,O1 19 .slen 18,BI 20 .add 17 19,O2 21 (.sslc true false) 16 20,MV 4 15,MV 5 21,MC 6 (.bool true)])))).seq (vV [MV 22 0,MV 4
 22,MC 5 (.str []),MC 6 (.bool false)])))
theorem qrJ:qK Tryz.prog 194 23 0 [RV.tmp 4,RV.tmp 5,RV.tmp 6] qsQ:=fi Tryz.f194 [] W0 []
def qsM:C:=
 (vS [MC 4 (.str []),MC 5 (.str []),MC 6 (.bool false)] (vV [MV 7 0,MV 8 1,O2 9 (.call 194 true) 7 8,O1 10 (.ext 0) 9,O1 11 (.ext 1) 9,O1 12 (.ext 2) 9,MV 4 10,MV 5 11,MV 6 12]))
theorem qrE:qK Tryz.prog 118 13 0 [RV.tmp 4,RV.tmp 5,RV.tmp 6] qsM:=fi Tryz.f118 [] W0 []
def qDx:C:=
 (vS [O1 1 (.box 0 90) 0,MC 2 (.str []),vM 3 0] ((vS [O1 6 (.load (some 3)) 1,O1 7 (.call 115 true) 6,MV 4 7] (vS [MV 8 4,vN 9 .neq 8 0] (vT 9 (vV [MV 10 4,MC 2 (.str []),MV 3
 10])))).seq (vS [vL 11 0 1,LD 12 11,MV 5 12] ((vS [vL 13 1 1,LD 14 13,BC 15 .neq 14 (.str [])] (vT 15 (vW [MV 16 5,vL 17 1 1,LD 18 17,ON 19 (.bin .add) [.c (.str [32,43,32]),.t
 18],BI 20 .add 16 19,MV 5 20]))).seq ((vS [vL 21 2 1,LD 22 21,vN 23 .neq 22 0] (vT 23 (vW [MV 24 5,vL 25 2 1,LD 26 25,O1 27 (.call 116 true) 26,ON 28 (.bin .add) [.c (.str
 [35]),.t 27],BI 29 .add 24 28,MV 5 29]))).seq (vV [MV 30 5,MV 2 30,vM 3 0]))))))
theorem qCl:qK Tryz.prog 50 31 1 [RV.tmp 2,RV.tmp 3] qDx:=fi Tryz.f50 [1] W0 []
def qDv:C:=
 (vS [MC 0 (.bool false)] (vS [⟨some 6,none,.bslc 0 1 3 9 [.str []] [(0,1),(1,1),(2,1)],[.c (.str [97]),.c (.str [98]),.c (.str [97])]⟩,ON 7 (.call 49 true) [.t 6,.c (i6 2),.c
 (i6 3)],MV 5 7,O1 8 (.ext 0) 5,O1 9 (.ext 1) 5,⟨some 1,none,.alloc 1 90 [.str [],.str [],i6 0],[]⟩,ST 3 1 8,MV 2 9] (vS [O1 11 (.load (some 3)) 1,O1 12 (.call 50 true) 11,MV 10
 12,O1 13 (.ext 0) 10,O1 14 (.ext 1) 10,MV 3 13,MV 4 14] (vV [MV 15 2,vN 16 .eql 15 0,MV 17 16,MG 18 17 true 4,PC 19 17 true (.bin .eql) 18 (i6 0),PF 20 17 19,MV 21 20,MG 22 21
 true 3,PC 23 21 true (.bin .eql) 22 (.str [97,35,50]),PF 24 21 23,MV 0 24]))))
theorem qCj:qK Tryz.prog 48 25 2 [RV.tmp 0] qDv:=fi Tryz.f48 [6,1] W0 []
end
section
open Go Go.Proofs AF
def kI:List Nat:= []
theorem qyD:qK Tryz.prog 263 19 0 [RV.tmp 4] (cIF 1 none):=fi Tryz.f263 [] kI []
theorem qCf:qK Tryz.prog 14 9 0 [RV.tmp 4] (cCT 65):=fi Tryz.f14 [] kI []
theorem qyj:qK Tryz.prog 188 9 0 [RV.tmp 4] (cCT 263):=fi Tryz.f188 [] kI []
theorem qCv:qK Tryz.prog 91 19 0 [RV.tmp 4] (cIF 2 (some 2)):=fi Tryz.f91 [] kI []
theorem qzc:qK Tryz.prog 65 19 0 [RV.tmp 4] (cIF 3 (some 3)):=fi Tryz.f65 [] kI []
theorem qrH:qK Tryz.prog 183 9 0 [RV.tmp 4] (cCT 255):=fi Tryz.f183 [] kI []
theorem qrO:qK Tryz.prog 255 19 0 [RV.tmp 4] (cIF 6 (some 6)):=fi Tryz.f255 [] kI []
theorem qyB:qK Tryz.prog 261 9 0 [RV.tmp 4] (cCT 310):=fi Tryz.f261 [] kI []
def qsY:C:=
 (vS [MC 6 (.bool false)] ((vS [MV 10 0,O1 11 .len 10,MV 12 1,O1 13 .len 12,BI 14 .neq 11 13] (vT 14 (vV [MC 6 (.bool false)]))).seq ((vS [MV 15 0,O1 16 .len 15,vM 17 0] (C.block
 0 (vS [BI 18 .lss 17 16] ((vU 18 0).seq ((C.block 1 (vS [MV 19 17,O2 20 (.idxA 2) 15 17,O1 21 (.load (some 2)) 20,⟨some 8,none,.alloc 0 152 [.nl,.nl],[]⟩,MV 7 19,ST 2 8 21] (vS
 [MV 22 1,MV 23 7,O2 24 (.idxA 2) 22 23,O1 25 (.load (some 2)) 24,⟨some 9,none,.alloc 1 152 [.nl,.nl],[]⟩,ST 2 9 25] (vS [MV 26 2,O1 27 (.load (some 2)) 8,O1 28 (.load (some 2))
 9,ON 29 .callv [.t 26,.t 27,.t 28],O1 30 (.un UnOp.not) 29] (vT 30 (vV [MC 6 (.bool false)])))))).seq (vW [vN 31 .add 17 1,MV 17 31])))).loop)).seq (vV [MC 6 (.bool true)]))))
theorem qrS:qK Tryz.prog 291 32 2 [RV.tmp 6] qsY:=fi Tryz.f291 [8,9] kI []
theorem qyP:qK Tryz.prog 310 19 0 [RV.tmp 4] (cIF 1 none):=fi Tryz.f310 [] kI []
end
section
open Go Go.Proofs AF HY LN
namespace RC
theorem qBV(s:Str)(h:we)(hs:s.length<=1000000000)(hp:ku SG h):ACalls Tryz.prog 189 [.str s] h (.bool (!zW s)) h:=by
 have c1:=qvQ s h hs hp;cases g:zW s with
 |true=>
  rw[g]at c1;refine acO qrI ?_;simp (disch:=omega) only[qsP,go_sem]
  repeat' first|((first|refine cA (c1) ?_ ?_|refine cG (λe=>c1) ?_ ?_);exact flk;simp (disch:=omega) only[go_sem])|((first|apply qa|apply qc);exact rvk;simp only[go_sem];first|exact qi|apply qe|apply qd|apply qz|skip)|(with_reducible first|intro _|apply aiA)|exact clz|fail
 |false=>
  rw[g]at c1;refine acO qrI ?_;simp (disch:=omega) only[qsP,go_sem]
  repeat' first|((first|refine cA (c1) ?_ ?_|refine cG (λe=>c1) ?_ ?_);exact flk;simp (disch:=omega) only[go_sem])|((first|apply qa|apply qc);exact rvk;simp only[go_sem];first|exact qi|apply qe|apply qd|apply qz|skip)|(with_reducible first|intro _|apply aiA)|exact clz|fail
theorem qDH(w:List Str)(h:we)(hw: ∀s∈w,zW s=true)(hn:w.length<=4096)(hp:ku SG h):ACalls Tryz.prog 113 [strs w] h (.int .i64 0) h:=by
 have k1:((4096:Int)<w.length)=False:=wi;have hg: ∀i,i<w.length->zW (w.getD i [])=true:=λi hi=>hw _ (by rw[gdqA,zH hi];exact List.getElem_mem hi)
 have e0:jK (λj=> !zW (w.getD j [])) w.length=false:=qu.2 λi hi=>by rw[hg i hi];rfl
 have c1:=qvY qyj ⟨rfl,rfl⟩ ⟨rfl,rfl⟩ (qex qyD w.length (λj=> [.str (w.getD j [])]) (λj=> .str (w.getD j [])) 189 [] [] (λj=> !zW (w.getD j [])) h (λi _=>⟨rfl,by simp[jZ],rfl,rfl,rfl⟩) (λi hi=>qBV _ _ (by have:=qcn (hg i hi);omega) hp) om);simp only[e0]at c1;refine acO qxW ?_;simp (disch:=omega) only[qwq,strs,k1,go_sem]
 repeat' first|((first|refine cA (c1) ?_ ?_|refine cG (λe=>c1) ?_ ?_);exact flk;simp (disch:=omega) only[strs,k1,go_sem])|((first|apply qa|apply qc);exact rvk;simp only[go_sem];first|exact qi|apply qe|apply qd|apply qz|skip)|(with_reducible first|intro _|apply aiA)|exact clz|fail
theorem qDT(w:List Str)(f l:Str)(h:we):ACalls Tryz.prog 114 [strs w,.str f,.str l] h (.fn (.func 191) [] [.ip [strs w],.ip [.str f],.ip [.str l]]) h:=by
 refine acO qxX ?_;simp (disch:=omega) only[qwr,go_sem]
 repeat' first|((first|apply qa|apply qc);exact rvk;simp only[go_sem];first|exact qi|apply qe|apply qd|apply qz|skip)|(with_reducible first|intro _|apply aiA)|exact clz|fail
def ocX(w:List Str)(f l:Str):List wg:=(occ w f l).map λp=> [.int .i64 ((p.1:Nat):Int),.int .i64 ((p.2:Nat):Int)]
theorem kl(w:List Str)(f l:Str):(ocX w f l).length=(occ w f l).length:=by simp[ocX]
theorem qdz{w:List Str}{f l:Str}{i:Nat}(hi:i<(ocX w f l).length):(ocX w f l)[i]= [.int .i64 (((occ w f l)[i]'(by rw[<-kl];exact hi)).1:Int),.int .i64 (((occ w f l)[i]'(by rw[<-kl];exact hi)).2:Int)]:=by
 simp[ocX]
theorem qlQ(w:List Str)(f l:Str): ∀a∈ocX w f l,a.length=2:=by
 intro a ha;unfold ocX at ha;obtain⟨_,_,rfl⟩:=List.mem_map.1 ha;rfl
theorem itQ(w:List Str)(f l:Str)(hl:w.length<=1000000):qi8 Tryz.prog 191 [.ip [strs w],.ip [.str f],.ip [.str l]] (ocX w f l):=by
 intro h ts LI S E hS hE body start hts;have zl: ∀g,valL g .len [strs w]= .int .i64 w.length:=λ_=>rfl
 have zo: ∀g,okL g .len [strs w]=True:=λ_=>eqt trivial
 refine acQ qyk ?_;simp (disch:=omega) only[qwK,zl,zo,go_sem]
 repeat' first|((first|apply qa|apply qc);exact rvk;simp only[go_sem];first|exact qi|apply qe|apply qd|apply qz|skip)|(with_reducible first|intro _|apply aiA)|exact clz|fail
 refine qt (T:=λi:Nat×we=>zg 47 [(0,.yld h.length),(1,.ip [strs w]),(2,.ip [.str f]),(3,.ip [.str l]),(8,strs w),(9,.int .i64 w.length),(10,.int .i64 i.1)])
  (H:=λi=>i.2++ [.lp .ready ts LI])
  (inv:=λi=>i.1<=w.length∧S (ocL w f l i.1).length i.2) (m:=λi=>w.length-i.1) (0,h) ⟨nzl _,start⟩ (Wk.temps ?_) ?_
 ·(simp only[go_sem,qh,qf,qb,qg];try exact wa)
 rintro⟨i,hh⟩ ⟨i1,i2⟩ K hK;simp only at i1 i2 hK;obtain⟨hlen,hlow⟩:=hS _ _ i2;have hb:(h++ [AObj.lp LS.ready ts LI]).length=(hh++ [AObj.lp LS.ready ts LI]).length:=by simp[hlen]
 rw[hb]
 by_cases hi:i<w.length
 case neg=>
  have q0:((i:Int)<w.length)=False:=wi;obtain rfl:i=w.length:=by omega
  simp (disch:=omega) only[q0,zl,zo,go_sem]
  repeat' first|((first|apply qa|apply qc);exact rvk;simp only[go_sem];first|exact qi|apply qe|apply qd|apply qz|skip)|(with_reducible first|intro _|apply aiA)|exact clz|fail
  obtain⟨r1,r2⟩:=(hS _ _ i2).ret (L:=LI) .ready hts;exact zQ trivial r1 r2 ⟨hh,.inl ⟨by rw[kl];exact i2,rfl⟩⟩ (qi)
 have q0:((i:Int)<w.length)=True:=wh;have hst:ocL w f l (i+1)=ocL w f l i++ocR w f l i:=rfl;have hR:ocR w f l i=if w.getD i []=f then (if l= [] then [(i,i)] else ocI w l i (w.length-(i+1))) else []:=rfl
 have h1:=λhf (e:l= [])=>qlS (w:=w) (f:=f) (i:=i) hi hf
 have h2:=λhf hn d hd he=>qlU (w:=w) (f:=f) (l:=l) (i:=i) (d:=d) hd hf hn he
 obtain⟨s,hs⟩:=wc (w.getD i [])
 have es:=hs.symm;rw[es]at hR h1 h2
 by_cases g1:s=f
 case neg=>
  have k1:(s=f)=False:=eqf g1;rw[ine g1]at hR;rw[hR,lan]at hst;simp (disch:=omega) only[q0,strs,es,k1,go_sem]
  repeat' first|((first|apply qa|apply qc);exact rvk;simp only[go_sem];first|exact qi|apply qe|apply qd|apply qz|skip)|(with_reducible first|intro _|apply aiA)|exact clz|fail
  refine hK _ _ (i+1,hh) ⟨hi,by simp only;rw[hst];exact i2⟩ (by simp only;omega) (Wk.temps ?_)
  (simp only[strs,go_sem,qh,qf,qb,qg];try exact wa)
 have k1:(s=f)=True:=eqt g1;rw[ipo g1]at hR
 by_cases g2:l= []
 ·subst g2;have k2:(([]:Str)= [])=True:=eqt rfl;rw[ipo rfl]at hR;obtain⟨hx,hxe⟩:=h1 g1 rfl;rw[hR]at hst;have hxl:(ocL w f [] i).length<(ocX w f []).length:=by rw[kl];exact hx
  have hb':=body (ocL w f [] i).length hh [] hxl i2;rw[qdz hxl,hxe]at hb';have hsl:(ocL w f [] (i+1)).length=(ocL w f [] i).length+1:=by rw[hst];simp
  simp (disch:=omega) only[q0,strs,es,k1,k2,go_sem]
  repeat' first|((first|apply qa|apply qc);exact rvk;simp only[go_sem];first|exact qi|apply qe|apply qd|apply qz|skip)|(with_reducible first|intro _|apply aiA)|exact clz|fail
  ·exact⟨.ready,ts,LI,jW hlen⟩
  ·refine jD.mono ?_ hb';rintro v h' ⟨hh',⟨rfl,hn,rfl⟩|⟨st,rfl,hs',rfl⟩⟩
   ·simp (disch:=omega) only[go_sem]
    repeat' first|((first|apply qa|apply qc);exact rvk;simp only[go_sem];first|exact qi|apply qe|apply qd|apply qz|skip)|(with_reducible first|intro _|apply aiA)|exact clz|fail
    refine hK _ _ (i+1,hh') ⟨hi,by simp only;rw[hsl];exact hn⟩ (by simp only;omega) (Wk.temps ?_)
    (simp only[strs,go_sem,qh,qf,qb,qg];try exact wa)
   ·simp (disch:=omega) only[go_sem];obtain⟨r1,r2⟩:=(hE _ _ hs').ret (L:=LI) st hts;exact zQ trivial r1 r2 ⟨_,.inr ⟨st,hs',rfl⟩⟩ (qi)
 have k2:(l= [])=False:=eqf g2;rw[ine g2]at hR;simp (disch:=omega) only[q0,strs,es,k1,k2,go_sem]
 repeat' first|((first|apply qa|apply qc);exact rvk;simp only[go_sem];first|exact qi|apply qe|apply qd|apply qz|skip)|(with_reducible first|intro _|apply aiA)|exact clz|fail
 refine qt (T:=λj:Nat×we=>zg 47 [(0,.yld h.length),(1,.ip [strs w]),(2,.ip [.str f]),(3,.ip [.str l]),(5,.int .i64 (i:Int)),(7,.int .i64 ((i+1+j.1:Nat):Int)),(8,strs w),(9,.int .i64 w.length),(10,.int .i64 (i:Int))])
  (H:=λj=>j.2++ [.lp .ready ts LI])
  (inv:=λj=>i+1+j.1<=w.length∧S (ocL w f l i++ocI w l i j.1).length j.2) (m:=λj=>w.length-j.1) (0,hh) ⟨hi,by simp only[ocI,lan];exact i2⟩ (Wk.temps ?_) ?_
 ·(simp only[strs,go_sem,qh,qf,qb,qg];try exact wa)
 clear hb hlen hlow;rintro⟨d,h3⟩ ⟨j1,j2⟩ K2 hK2;simp only at j1 j2 hK2;obtain⟨hlen,hlow⟩:=hS _ _ j2;have hb:(hh++ [AObj.lp LS.ready ts LI]).length=(h3++ [AObj.lp LS.ready ts LI]).length:=by simp[hlen,(hS _ _ i2).1]
 rw[hb]
 by_cases hd:i+1+d<w.length
 case neg=>
  have m0:(((i+1+d:Nat):Int)<w.length)=False:=wi;have e:w.length-(i+1)=d:=by omega
  rw[e]at hR;rw[hR]at hst;simp (disch:=omega) only[m0,zl,zo,go_sem]
  repeat' first|((first|apply qa|apply qc);exact rvk;simp only[go_sem];first|exact qi|apply qe|apply qd|apply qz|skip)|(with_reducible first|intro _|apply aiA)|exact clz|fail
  refine hK _ _ (i+1,h3) ⟨hi,by simp only;rw[hst];exact j2⟩ (by simp only;omega) (Wk.temps ?_)
  (simp only[strs,go_sem,qh,qf,qb,qg];try exact wa)
 have m0:(((i+1+d:Nat):Int)<w.length)=True:=wh;have hI:ocI w l i (d+1)=ocI w l i d++if w.getD (i+1+d) []=l then [(i,i+1+d)] else []:=rfl
 have h2:=h2 g1 g2 d hd;obtain⟨c,hc⟩:=wc (i+1+d)
 have ec:=hc.symm;simp only[ec]at m0 hI h2 ⊢;obtain⟨u,hu⟩:=wc (w.getD c [])
 have eu:=hu.symm;rw[eu]at hI h2
 by_cases g3:u=l
 case neg=>
  have k3:(u=l)=False:=eqf g3;rw[ine g3,lan]at hI;simp (disch:=omega) only[strs,m0,eu,k3,zl,zo,go_sem]
  repeat' first|((first|apply qa|apply qc);exact rvk;simp only[go_sem];first|exact qi|apply qe|apply qd|apply qz|skip)|(with_reducible first|intro _|apply aiA)|exact clz|fail
  refine hK2 _ _ (d+1,h3) ⟨om,by simp only;rw[hI];exact j2⟩ (by simp only;omega) (Wk.temps ?_)
  (simp only[strs,go_sem,qh,qf,qb,qg];try exact wa)
 have k3:(u=l)=True:=eqt g3;rw[ipo g3]at hI;obtain⟨hx,hxe⟩:=h2 g3;have hxl:(ocL w f l i++ocI w l i d).length<(ocX w f l).length:=by rw[kl];exact hx
 have hb':=body (ocL w f l i++ocI w l i d).length h3 [] hxl j2;rw[qdz hxl,hxe]at hb';have hsl:(ocL w f l i++ocI w l i (d+1)).length=(ocL w f l i++ocI w l i d).length+1:=by rw[hI];simp only[lap,lco,lnl];omega
 simp (disch:=omega) only[strs,m0,eu,k3,zl,zo,go_sem]
 repeat' first|((first|apply qa|apply qc);exact rvk;simp only[go_sem];first|exact qi|apply qe|apply qd|apply qz|skip)|(with_reducible first|intro _|apply aiA)|exact clz|fail
 ·exact⟨.ready,ts,LI,jW hlen⟩
 ·refine jD.mono ?_ hb';rintro v h' ⟨hh',⟨rfl,hn,rfl⟩|⟨st,rfl,hs',rfl⟩⟩
  ·simp (disch:=omega) only[go_sem]
   repeat' first|((first|apply qa|apply qc);exact rvk;simp only[go_sem];first|exact qi|apply qe|apply qd|apply qz|skip)|(with_reducible first|intro _|apply aiA)|exact clz|fail
   refine hK2 _ _ (d+1,hh') ⟨om,by simp only;rw[hsl];exact hn⟩ (by simp only;omega) (Wk.temps ?_)
   (simp only[strs,go_sem,qh,qf,qb,qg];try exact wa)
  ·simp (disch:=omega) only[go_sem];obtain⟨r1,r2⟩:=(hE _ _ hs').ret (L:=LI) st hts;exact zQ trivial r1 r2 ⟨_,.inr ⟨st,hs',rfl⟩⟩ (qi)
end RC
end
section
open Go Go.Proofs AF
def qt5:List Nat:= []
def qDw:C:=
 (vS [O1 4 (.box 0 3) 1,O1 5 (.box 1 3) 2,⟨some 6,none,.alloc 2 90 [.str [],.str [],i6 0],[]⟩,vM 7 0] ((vS [MV 13 0,O1 14 (.call 113 true) 13,MV 8 14] (vS [MV 15 8,vN 16 .neq 15
 0] (vT 16 (vV [⟨some 17,none,.build [.str [],.str [],i6 0] [],[]⟩,MV 18 8,ST 3 6 17,MV 7 18])))).seq ((vS [LD 19 4,vN 20 .lss 19 0,MV 21 20,v6 22 21 4,v6 23 21 5,vP 24 21 (.bin
 .geq) 22 23,PT 25 21 24,MV 26 25,v6 27 26 5,vQ 28 26 0,vO 29 26 .len 28,vP 30 26 (.bin .gtr) 27 29,PT 31 26 30] (vT 31 (vV [⟨some 32,none,.build [.str [],.str [],i6 0]
 [],[]⟩,ST 3 6 32,vM 7 2]))).seq (vS [MV 33 0,LD 34 4,O2 35 (.idxA 1) 33 34,LD 36 35,⟨some 37,none,.build [.str [],.str [],i6 0] [(0,1)],[.t 36]⟩,⟨some 9,none,.alloc 3 90 [.str
 [],.str [],i6 0],[]⟩,ST 3 9 37] ((vS [LD 38 5,LD 39 4,BI 40 .sub 38 39,vN 41 .gtr 40 1] (vT 41 (vW [MV 42 0,LD 43 5,vN 44 .sub 43 1,O2 45 (.idxA 1) 42 44,LD 46 45,vL 47 1 9,ST
 1 47 46]))).seq (vS [⟨some 10,none,.alloc 4 3 [i6 0],[]⟩,⟨none,none,.store 1,[.t 10,.c (i6 0)]⟩] ((vS [MV 48 0,vL 49 0 9,LD 50 49,vL 51 1 9,LD 52 51,ON 53 (.call 114 true) [.t
 48,.t 50,.t 52]] (C.block 0 (C.range (.t 53) [54,55] (vS [MV 11 54] (vW [MV 12 55])) (C.block 1 (vS [LD 56 10,vN 57 .add 56 1,ST 1 10 57] ((vS [MV 58 11,LD 59 4,BI 60 .eql 58
 59,MV 61 60,MG 62 61 true 12,P1 63 61 true (.load none) 5,PC 64 61 true (.bin .sub) 63 (i6 1),P2 65 61 true (.bin .eql) 62 64,PF 66 61 65] (vT 66 (vW [LD 67 10,vL 68 2 9,ST 1
 68 67]))).seq (vS [LD 69 10,vN 70 .gtr 69 1,MV 71 70,P1 72 71 true (.fldA 2) 9,P1 73 71 true (.load none) 72,PC 74 71 true (.bin .gtr) 73 (i6 0),PF 75 71 74] (vT 75 (C.exit
 0))))))))).seq ((vS [LD 76 10,vN 77 .eql 76 1] (vT 77 (vW [vL 78 2 9,⟨none,none,.store 1,[.t 78,.c (i6 0)]⟩]))).seq ((vS [vL 79 2 9,LD 80 79,vN 81 .gtr 80 65536] (vT 81 (vV
 [⟨some 82,none,.build [.str [],.str [],i6 0] [],[]⟩,ST 3 6 82,vM 7 4]))).seq (vV [O1 83 (.load (some 3)) 9,ST 3 6 83,vM 7 0]))))))))))
theorem qCk:qK Tryz.prog 49 84 5 [RV.cell 6 (some 3),RV.tmp 7] qDw:=fi Tryz.f49 [4,5,6,9,10] qt5 []
end
section
open Go Go.Proofs AF
def qt6:List Nat:= []
def qDz:C:=
 (vS [O1 3 (.box 0 90) 1,vM 4 0,vM 5 0,vM 6 0] ((vS [MV 14 0,O1 15 (.call 113 true) 14,MV 7 15] (vS [MV 16 7,vN 17 .neq 16 0] (vT 17 (vV [MV 18 7,vM 4 0,vM 5 0,MV 6 18])))).seq
 ((vS [O1 19 (.load (some 3)) 3,O1 20 (.call 115 true) 19,MV 8 20] (vS [MV 21 8,vN 22 .neq 21 0] (vT 22 (vV [MV 23 8,vM 4 0,vM 5 0,MV 6 23])))).seq (vS [⟨some 9,none,.alloc 1 3
 [i6 0],[]⟩,⟨some 10,none,.alloc 2 3 [i6 0],[]⟩,⟨some 11,none,.alloc 3 3 [i6 0],[]⟩,⟨none,none,.store 1,[.t 9,.c (i6 0)]⟩,⟨none,none,.store 1,[.t 10,.c (i6
 0)]⟩,⟨none,none,.store 1,[.t 11,.c (i6 0)]⟩] ((vS [MV 24 0,vL 25 0 3,LD 26 25,vL 27 1 3,LD 28 27,ON 29 (.call 114 true) [.t 24,.t 26,.t 28]] (C.block 0 (C.range (.t 29) [30,31]
 (vS [MV 12 30] (vW [MV 13 31])) (C.block 1 (vS [LD 32 11,vN 33 .add 32 1,ST 1 11 33] ((vS [LD 34 11,vL 35 2 3,LD 36 35,OC 37 (.mm true) 36 (i6 1),BI 38 .eql 34 37] (vT 38 (vW
 [MV 39 12,MV 40 13,vN 41 .add 40 1,ST 1 9 39,ST 1 10 41]))).seq (vS [LD 42 11,vL 43 2 3,LD 44 43,OC 45 (.mm true) 44 (i6 1),BI 46 .gtr 42 45] (vT 46 (C.exit 0))))))))).seq
 ((C.block 2 (vS [LD 48 11,vN 49 .eql 48 0,MV 47 49] (C.cond (.t 47) (vV [vM 4 0,vM 5 0,vM 6 6]) (vS [vL 51 2 3,LD 52 51,vN 53 .eql 52 0,MV 54 53,P1 55 54 true (.load none)
 11,PC 56 54 true (.bin .gtr) 55 (i6 1),PF 57 54 56,MV 50 57] (C.cond (.t 50) (vV [vM 4 0,vM 5 0,vM 6 16]) (vS [vL 59 2 3,LD 60 59,vN 61 .gtr 60 0,MV 62 61,P1 63 62 true (.load
 none) 11,PC 64 62 true (.bin .eql) 63 (i6 1),MG 65 62 true 64,v6 66 65 11,vZ 67 65 2 3,v6 68 65 67,vP 69 65 (.bin .lss) 66 68,QT 70 62 true 65 69,PF 71 62 70,MV 58 71] (vT 58
 (vV [vM 4 0,vM 5 0,vM 6 6])))))))).seq (vV [LD 72 9,LD 73 10,MV 4 72,MV 5 73,vM 6 0])))))))
theorem qCn:qK Tryz.prog 52 74 4 [RV.tmp 4,RV.tmp 5,RV.tmp 6] qDz:=fi Tryz.f52 [3,9,10,11] qt6 []
end
section
open Go Go.Proofs AF HY LN
namespace RC
theorem que(f l:Str)(n:Nat)(h:we)(hk:qrt f l n)(hp:ku SG h):ACalls Tryz.prog 115 [.agg [.str f,.str l,.int .i64 (n:Int)]] h (.int .i64 0) h:=by
 obtain⟨_,_,_,_,f1,f2⟩:=hk.cs;have c1:=λl'=>qvQ f (h++l') om (hp.app l')
 have c2:=λl'=>qvQ l (h++l') om (hp.app l')
 have hn:=hk.n;have k1:((n:Int)<0)=False:=wi;have k2:((65536:Int)<n)=False:=wi;rw[hk.f]at c1;rcases hk.l with g|g
 ·have k3:(l= [])=True:=eqt g;refine acO qrD ?_;simp (disch:=omega) only[qsL,k1,k2,k3,go_sem]
  repeat' first|(refine ql ( .bool false) ?_;simp (disch:=omega) only[k1,k2,k3,go_sem])|((first|refine cA (c1 _) ?_ ?_|refine cG (λe=>c1 _) ?_ ?_|refine cU (λ_=>c1 _) ?_ ?_);exact flk;simp (disch:=omega) only[k1,k2,k3,go_sem])|((first|apply qa|apply qc);exact rvk;simp only[go_sem];first|exact qi|apply qe|apply qd|apply qz|skip)|(with_reducible first|intro _|apply aiA)|exact clz|fail
 ·have k3:(l= [])=False:=eqf (kG g).2.2;rw[g]at c2;refine acO qrD ?_;simp (disch:=omega) only[qsL,k1,k2,k3,go_sem]
  repeat' first|((first|refine cA (c1 _) ?_ ?_|refine cG (λe=>c1 _) ?_ ?_|refine cA (c2 _) ?_ ?_|refine cG (λe=>c2 _) ?_ ?_|refine cU (λ_=>c1 _) ?_ ?_|refine cU (λ_=>c2 _) ?_ ?_);exact flk;simp (disch:=omega) only[k1,k2,k3,go_sem])|((first|apply qa|apply qc);exact rvk;simp only[go_sem];first|exact qi|apply qe|apply qd|apply qz|skip)|(with_reducible first|intro _|apply aiA)|exact clz|fail
theorem qzD(f l:Str)(n:Nat)(h:we)(hk:qrt f l n)(hp:ku SG h):ACalls Tryz.prog 50 [.agg [.str f,.str l,.int .i64 (n:Int)]] h (.tup [.str (prS f l n),.int .i64 0]) h:=by
 obtain⟨_,_,_,_,f1,f2⟩:=hk.cs;have hn:=hk.n;have hil:=UJ hn;have c1:=λl'=>que f l n (h++l') hk (hp.app l')
 have c2:=λl'=>t48 (n:Int) (h++l') (SG.pow (hp.app l')) om om
 obtain⟨t,ht⟩:=wc (Lib.itoa (n:Int))
 have et:pnN n=if n=0 then [] else [35]++t:=by rw[ht];rfl
 rw[<-ht]at hil;simp only[<-ht]at c2;unfold prS;rw[et]
 by_cases g1:l= []
 case' pos=>
  have k1:(l= [])=True:=eqt g1;rw[ipo g1]
 case' neg=>
  have k1:(l= [])=False:=eqf g1;rw[ine g1]
 all_goals
  by_cases g2:n=0
  case' pos=>
   have k2:((n:Int)=0)=True:=wh;rw[ipo g2,lan]
  case' neg=>
   have k2:((n:Int)=0)=False:=wi;rw[ine g2]
  all_goals
   refine acO qCl ?_;simp (disch:=omega) only[qDx,k1,k2,go_sem]
   repeat' first|((first|refine cA (c1 _) ?_ ?_|refine cG (λe=>c1 _) ?_ ?_|refine cA (c2 _) ?_ ?_|refine cG (λe=>c2 _) ?_ ?_|refine cU (λ_=>c1 _) ?_ ?_|refine cU (λ_=>c2 _) ?_ ?_);exact flk;simp (disch:=omega) only[k1,k2,lap,lco,lnl,go_sem])|((first|apply qa|apply qc);exact rvk;simp only[go_sem];first|exact qi|apply qe|apply qd|apply qz|skip)|(with_reducible first|intro _|apply aiA)|exact clz|fail
def qEc:AV->Bool
 | .int _ _=>true
 | .str _=>true
 | .bool _=>true
 |_=>false
theorem qr5{n v:Nat}{ty:TypeId}{cs:wg}(h:cs.all qEc=true):lowO n (.mem v ty cs):=λc hc=>by
 have:=List.all_eq_true.1 h c hc
 cases c<;>first|rfl|cases this
def nuD(P d:Nat):Int:=if P<d then (P:Int)+1 else 0
theorem qCK(w:List Str)(a b:Nat)(h:we)(hw: ∀s∈w,zW s=true)(hab:a<b)(hb:b<=w.length)(hn:w.length<=100)(hp:ku SG h):
  ACalls Tryz.prog 49 [strs w,.int .i64 (a:Int),.int .i64 (b:Int)] h (.tup [.agg [.str (lmF w a),.str (lmL w a b),.int .i64 (lmN w a b:Int)],.int .i64 0]) h:=by
 have c1:=λl=>qDH w (h++l) hw om (hp.app l)
 have c2:=λf l h=>qDT w f l h
 have hne: ∀s∈w,s≠ []:=λs hs=>(kG (hw s hs)).2.2
 obtain⟨p1,p2⟩:=qhZ hab hb hne;have hk:=qh0 hw hab hb hn;have hkn:=hk.n;have eN:lmN w a b=if (lmX w a b).length=1 then 0 else lmP w a b+1:=rfl
 have eX:lmX w a b=occ w (lmF w a) (lmL w a b):=rfl;have eL:lmL w a b=if 1<b-a then w.getD (b-1) [] else []:=rfl
 have eF:w.getD a []=lmF w a:=rfl;have hinj: ∀i j (hi:i<(lmX w a b).length) (hj:j<(lmX w a b).length),(lmX w a b)[i]=(lmX w a b)[j]->i=j:=λi j hi hj e=>qlR hi hj e
 obtain⟨N,hN⟩:=wc (lmN w a b)
 obtain⟨P,hP⟩:=wc (lmP w a b)
 obtain⟨f,hf⟩:=wc (lmF w a)
 obtain⟨l,hl⟩:=wc (lmL w a b)
 obtain⟨X,hX⟩:=wc (lmX w a b)
 rw[<-hN]at hkn eN ⊢;rw[<-hX,<-hf,<-hl]at eX;rw[<-hf]at eF;rw[<-hl]at eL;simp only[<-hP,<-hX]at p1 p2 eN hinj;rw[<-hf,<-hl];have hPb:P<=65535:=by
  split at eN
  ·omega
  ·omega
 have k1:((a:Int)<0)=False:=wi;have k2:((b:Int)<=a)=False:=wi;have k3:((w.length:Int)<b)=False:=wi;have k4:((a:Int)<w.length)=True:=wh;have k5:((b:Int)-1<w.length)=True:=wh;have k6:(0<=(b:Int)-1)=True:=wh;have k7:((b:Int)-1).toNat=b-1:=by omega
 have zl: ∀g,valL g .len [strs w]= .int .i64 w.length:=λ_=>rfl
 have zo: ∀g,okL g .len [strs w]=True:=λ_=>eqt trivial
 have zs:strs w= .sl w.length λi=> [.str (w.getD i [])]:=rfl
 by_cases g:1<b-a
 case' pos=>
  have q1:((1:Int)<(b:Int)-a)=True:=wh;rw[ipo g]at eL;have eL':=eL.symm
 case' neg=>
  have q1:((1:Int)<(b:Int)-a)=False:=wi;rw[ine g]at eL;have eL':w.getD a []=f:=eF;subst eL
  let l:Str:= []
 all_goals
  refine acO qCk ?_;simp (disch:=omega) only[qDw,zs,k1,k2,k3,k4,k5,k6,k7,q1,eL',eF,go_sem]
  repeat' first|((first|refine cA (c1 _) ?_ ?_|refine cG (λe=>c1 _) ?_ ?_|refine cA (c2 _ _ _) ?_ ?_|refine cG (λe=>c2 _ _ _) ?_ ?_|refine cU (λ_=>c1 _) ?_ ?_|refine cU (λ_=>c2 _ _ _) ?_ ?_);exact flk;simp (disch:=omega) only[zs,k1,k2,k3,k4,k5,k6,k7,q1,eL',eF,go_sem])|((first|apply qa|apply qc);exact rvk;simp only[go_sem];first|exact qi|apply qe|apply qd|apply qz|skip)|(with_reducible first|intro _|apply aiA)|exact clz|fail
  refine qY (xs:=ocX w f l) (itQ w f l om) (qlQ w f l)
   (S:=λd hh=>(d<=1∨d<=P)∧hh=h++ [.mem 1 3 [.int .i64 (a:Int)],.mem 1 3 [.int .i64 (b:Int)],.mem 1 90 [.str [],.str [],.int .i64 0],.mem 1 90 [.str f,.str l,.int .i64 (nuD P d)],.mem 1 3 [.int .i64 (d:Int)]])
   (E:=λe hh=>e= .exit 0∧ ∃c:Nat,2<=c∧c<=X.length∧hh=h++ [.mem 1 3 [.int .i64 (a:Int)],.mem 1 3 [.int .i64 (b:Int)],.mem 1 90 [.str [],.str [],.int .i64 0],.mem 1 90 [.str f,.str l,.int .i64 ((P:Int)+1)],.mem 1 3 [.int .i64 (c:Int)]]) ?a1 ?a2 ?a3 ?a4 ?a5 ?a6 ?a7
  case a1=>
   rintro d hh ⟨_,rfl⟩;exact LowI.app rfl (λo ho=>by simp only[List.mem_cons,List.not_mem_nil,or_false]at ho;rcases ho with rfl|rfl|rfl|rfl|rfl<;>exact .inr ⟨qr5 rfl,qr5 rfl⟩)
  case a2=>
   rintro e hh ⟨_,c,_,_,rfl⟩;exact LowI.app rfl (λo ho=>by simp only[List.mem_cons,List.not_mem_nil,or_false]at ho;rcases ho with rfl|rfl|rfl|rfl|rfl<;>exact .inr ⟨qr5 rfl,qr5 rfl⟩)
  case a3=>exact⟨.inl om,rfl⟩
  case a4=>
   simp[qS,qS.lowVs,qbI]
   try omega
  case a5=>
   rintro d hh tl LI TS hi ⟨hd,rfl⟩ hlen K K2 hK hN hR hE;rw[qdz hi];have hi':d<X.length:=by rw[eX,<-kl];exact hi
   have hpd: ∀(p:Nat×Nat),X[d]=p->((occ w f l)[d]'(by rw[<-kl];exact hi))=p:=λp e=>by subst e;first|(simp only[eX];done)|(simp only[eX];rfl)
   obtain⟨⟨i,k⟩,hik⟩: ∃p,X[d]=p:=⟨_,rfl⟩
   rw[hpd _ hik];simp only[jV];simp (disch:=omega) only[List.append_assoc,go_sem];refine hK _ _ (h++ [.mem 1 3 [.int .i64 (a:Int)],.mem 1 3 [.int .i64 (b:Int)],.mem 1 90 [.str [],.str [],.int .i64 0],.mem 1 90 [.str f,.str l,.int .i64 (nuD P d)],.mem 1 3 [.int .i64 (d:Int)]]) (by simp) (by simp) ?_;rcases Nat.lt_trichotomy d P with gd|gd|gd
   ·have hne: ¬(i=a∧k=b-1):=λhc=>by
     have:=hinj d P hi' p1 (by rw[hik,p2,hc.1,hc.2])
     omega
    have en:nuD P d=0:=ine om;have en1:nuD P (d+1)=0:=ine om;rw[en];have m5:((0:Int)<0)=False:=wi
    by_cases g1:i=a
    case' pos=>
     have m1:((i:Int)=a)=True:=wh;have m3:((k:Int)=(b:Int)-1)=False:=wi
    case' neg=>
     have m1:((i:Int)=a)=False:=wi;have m3:True=True:=rfl
    all_goals
     by_cases g2:d=0
     case' pos=>have m4:((1:Int)<(d:Int)+1)=False:=wi
     case' neg=>have m4:((1:Int)<(d:Int)+1)=True:=wh
     all_goals
      simp (disch:=omega) only[List.append_assoc,m1,m3,m4,m5,false_and,false_implies,go_sem]
      repeat' first|((first|apply qa|apply qc);exact rvk;simp only[go_sem];first|exact qi|apply qe|apply qd|apply qz|skip)|(with_reducible first|intro _|apply aiA)|exact clz|fail
      refine hN _ _ (h++ [.mem 1 3 [.int .i64 (a:Int)],.mem 1 3 [.int .i64 (b:Int)],.mem 1 90 [.str [],.str [],.int .i64 0],.mem 1 90 [.str f,.str l,.int .i64 0],.mem 1 3 [.int .i64 ((d+1:Nat):Int)]]) (by simp) (by simp) ⟨om,by rw[en1]⟩
   ·subst gd;have hpq:i=a∧k=b-1:=by
     have:=hik.symm.trans p2
     simpa using this
    obtain⟨hpa,hpb⟩:=hpq;have en:nuD d d=0:=ine om;have en1:nuD d (d+1)=(d:Int)+1:=ipo om;rw[en];have m1:((i:Int)=a)=True:=wh;have m3:((k:Int)=(b:Int)-1)=True:=wh;have m5:((0:Int)<(d:Int)+1)=True:=wh
    by_cases g2:d=0
    ·have m4:((1:Int)<(d:Int)+1)=False:=wi;simp (disch:=omega) only[List.append_assoc,m1,m3,m4,m5,go_sem]
     repeat' first|((first|apply qa|apply qc);exact rvk;simp only[go_sem];first|exact qi|apply qe|apply qd|apply qz|skip)|(with_reducible first|intro _|apply aiA)|exact clz|fail
     refine hN _ _ (h++ [.mem 1 3 [.int .i64 (a:Int)],.mem 1 3 [.int .i64 (b:Int)],.mem 1 90 [.str [],.str [],.int .i64 0],.mem 1 90 [.str f,.str l,.int .i64 ((d:Int)+1)],.mem 1 3 [.int .i64 ((d+1:Nat):Int)]]) (by simp) (by simp) ⟨om,by rw[en1]⟩
    ·have m4:((1:Int)<(d:Int)+1)=True:=wh;simp (disch:=omega) only[List.append_assoc,m1,m3,m4,m5,go_sem]
     repeat' first|((first|apply qa|apply qc);exact rvk;simp only[go_sem];first|exact qi|apply qe|apply qd|apply qz|skip)|(with_reducible first|intro _|apply aiA)|exact clz|fail
     refine hE _ _ _ (h++ [.mem 1 3 [.int .i64 (a:Int)],.mem 1 3 [.int .i64 (b:Int)],.mem 1 90 [.str [],.str [],.int .i64 0],.mem 1 90 [.str f,.str l,.int .i64 ((d:Int)+1)],.mem 1 3 [.int .i64 ((d+1:Nat):Int)]]) (by simp) (by simp) ⟨rfl,d+1,om,om,by simp⟩
   ·obtain rfl:d=1:=by omega
    obtain rfl:P=0:=by omega
    have hne: ¬(i=a∧k=b-1):=λhc=>by
     have:=hinj 1 0 hi' p1 (by rw[hik,p2,hc.1,hc.2])
     omega
    have en:nuD 0 1=1:=rfl;rw[en];have m4:((1:Int)<1+1)=True:=wh;have m5:((0:Int)<1)=True:=wh;have m6:((1:Nat):Int)=1:=rfl
    by_cases g1:i=a
    case' pos=>
     have m1:((i:Int)=a)=True:=wh;have m3:((k:Int)=(b:Int)-1)=False:=wi
    case' neg=>
     have m1:((i:Int)=a)=False:=wi;have m3:True=True:=rfl
    all_goals
     simp (disch:=omega) only[List.append_assoc,m1,m3,m4,m5,m6,false_and,false_implies,go_sem]
     repeat' first|((first|apply qa|apply qc);exact rvk;simp only[go_sem];first|exact qi|apply qe|apply qd|apply qz|skip)|(with_reducible first|intro _|apply aiA)|exact clz|fail
     refine hE _ _ _ (h++ [.mem 1 3 [.int .i64 (a:Int)],.mem 1 3 [.int .i64 (b:Int)],.mem 1 90 [.str [],.str [],.int .i64 0],.mem 1 90 [.str f,.str l,.int .i64 ((0:Nat)+1)],.mem 1 3 [.int .i64 ((2:Nat):Int)]]) (by simp) (by simp) ⟨rfl,2,om,om,by simp⟩
  case a6=>
   rintro hh ⟨hd,rfl⟩;rw[kl,<-eX]at hd ⊢;have hX1:X.length=1:=by omega
   have hP0:P=0:=by omega
   have hN0:N=0:=by rw[eN,ipo hX1]
   rw[hX1,hP0,hN0];have en:nuD 0 1=1:=rfl;have m6:((1:Nat):Int)=1:=rfl;have m7:((65536:Int)<0)=False:=wi;rw[en];simp (disch:=omega) only[List.append_assoc,m6,m7,go_sem]
   repeat' first|((first|apply qa|apply qc);exact rvk;simp only[go_sem];first|exact qi|apply qe|apply qd|apply qz|skip)|(with_reducible first|intro _|apply aiA)|exact clz|fail
  case a7=>
   rintro e hh ⟨rfl,c,h1,h2,rfl⟩;have hN0:N=P+1:=by rw[eN,ine om]
   rw[hN0];have m6:((c:Int)=1)=False:=wi;have m7:((65536:Int)<(P:Int)+1)=False:=wi;simp (disch:=omega) only[List.append_assoc,m6,m7,go_sem]
   repeat' first|((first|apply qa|apply qc);exact rvk;simp only[go_sem];first|exact qi|apply qe|apply qd|apply qz|skip)|(with_reducible first|intro _|apply aiA)|exact clz|fail
def fiV(P d:Nat)(x:Nat):Int:=if P<d then (x:Int) else 0
theorem qDR(w:List Str)(a b:Nat)(h:we)(hw: ∀s∈w,zW s=true)(hab:a<b)(hb:b<=w.length)(hn:w.length<=100)(hp:ku SG h):
  ACalls Tryz.prog 52 [strs w,.agg [.str (lmF w a),.str (lmL w a b),.int .i64 (lmN w a b:Int)]] h (.tup [.int .i64 (a:Int),.int .i64 (b:Int),.int .i64 0]) h:=by
 have c1:=λl=>qDH w (h++l) hw om (hp.app l)
 have hne: ∀s∈w,s≠ []:=λs hs=>(kG (hw s hs)).2.2
 obtain⟨p1,p2⟩:=qhZ hab hb hne;have hk:=qh0 hw hab hb hn;have c3:=λl'=>que _ _ _ (h++l') hk (hp.app l')
 have hkn:=hk.n;have eN:lmN w a b=if (lmX w a b).length=1 then 0 else lmP w a b+1:=rfl
 have eX:lmX w a b=occ w (lmF w a) (lmL w a b):=rfl;have hinj: ∀i j (hi:i<(lmX w a b).length) (hj:j<(lmX w a b).length),(lmX w a b)[i]=(lmX w a b)[j]->i=j:=λi j hi hj e=>qlR hi hj e
 obtain⟨N,hN⟩:=wc (lmN w a b)
 obtain⟨P,hP⟩:=wc (lmP w a b)
 obtain⟨f,hf⟩:=wc (lmF w a)
 obtain⟨l,hl⟩:=wc (lmL w a b)
 obtain⟨X,hX⟩:=wc (lmX w a b)
 rw[<-hX,<-hf,<-hl]at eX;rw[<-hf,<-hl,<-hN];simp only[<-hf,<-hl,<-hN]at c3;simp only[<-hP,<-hX,<-hN]at p1 p2 eN hinj hkn;have c2:=λh=>qDT w f l h
 have hPb:P<=65535:=by
  split at eN
  ·omega
  ·omega
 have hmx:max (N:Int) 1=(P:Int)+1:=by
  split at eN
  ·omega
  ·omega
 have zl: ∀g,valL g .len [strs w]= .int .i64 w.length:=λ_=>rfl
 have zo: ∀g,okL g .len [strs w]=True:=λ_=>eqt trivial
 have zs:strs w= .sl w.length λi=> [.str (w.getD i [])]:=rfl
 unfold strs at c1 c2;refine acO qCn ?_;simp (disch:=omega) only[qDz,zs,go_sem]
 repeat' first|((first|refine cA (c1 _) ?_ ?_|refine cG (λe=>c1 _) ?_ ?_|refine cA (c3 _) ?_ ?_|refine cG (λe=>c3 _) ?_ ?_|refine cA (c2 _) ?_ ?_|refine cG (λe=>c2 _) ?_ ?_|refine cU (λ_=>c1 _) ?_ ?_|refine cU (λ_=>c3 _) ?_ ?_|refine cU (λ_=>c2 _) ?_ ?_);exact flk;simp (disch:=omega) only[zs,go_sem])|((first|apply qa|apply qc);exact rvk;simp only[go_sem];first|exact qi|apply qe|apply qd|apply qz|skip)|(with_reducible first|intro _|apply aiA)|exact clz|fail
 refine qY (xs:=ocX w f l) (itQ w f l om) (qlQ w f l)
  (S:=λd hh=>d<=P+1∧hh=h++ [.mem 1 90 [.str f,.str l,.int .i64 (N:Int)],.mem 1 3 [.int .i64 (fiV P d a)],.mem 1 3 [.int .i64 (fiV P d b)],.mem 1 3 [.int .i64 (d:Int)]])
  (E:=λe hh=>e= .exit 0∧P+2<=X.length∧hh=h++ [.mem 1 90 [.str f,.str l,.int .i64 (N:Int)],.mem 1 3 [.int .i64 (a:Int)],.mem 1 3 [.int .i64 (b:Int)],.mem 1 3 [.int .i64 ((P+2:Nat):Int)]]) ?a1 ?a2 ?a3 ?a4 ?a5 ?a6 ?a7
 case a1=>
  rintro d hh ⟨_,rfl⟩;exact LowI.app rfl (λo ho=>by simp only[List.mem_cons,List.not_mem_nil,or_false]at ho;rcases ho with rfl|rfl|rfl|rfl<;>exact .inr ⟨qr5 rfl,qr5 rfl⟩)
 case a2=>
  rintro e hh ⟨_,_,rfl⟩;exact LowI.app rfl (λo ho=>by simp only[List.mem_cons,List.not_mem_nil,or_false]at ho;rcases ho with rfl|rfl|rfl|rfl<;>exact .inr ⟨qr5 rfl,qr5 rfl⟩)
 case a3=>exact⟨om,rfl⟩
 case a4=>
  simp[qS,qS.lowVs,qbI]
  try omega
 case a5=>
  rintro d hh tl LI TS hi ⟨hd,rfl⟩ hlen K K2 hK hN2 hR hE;rw[qdz hi];have hi':d<X.length:=by rw[eX,<-kl];exact hi
  have hpd: ∀(p:Nat×Nat),X[d]=p->((occ w f l)[d]'(by rw[<-kl];exact hi))=p:=λp e=>by subst e;simp only[eX]
  obtain⟨⟨i,k⟩,hik⟩: ∃p,X[d]=p:=⟨_,rfl⟩
  rw[hpd _ hik];simp only[jV];simp (disch:=omega) only[List.append_assoc,go_sem];refine hK _ _ (h++ [.mem 1 90 [.str f,.str l,.int .i64 (N:Int)],.mem 1 3 [.int .i64 (fiV P d a)],.mem 1 3 [.int .i64 (fiV P d b)],.mem 1 3 [.int .i64 (d:Int)]]) (by simp) (by simp) ?_;rcases Nat.lt_trichotomy d P with gd|gd|gd
  ·have en: ∀x,fiV P d x=0:=λx=>ine om
   have en1: ∀x,fiV P (d+1) x=0:=λx=>ine om
   rw[en,en];have m1:((d:Int)+1=(P:Int)+1)=False:=wi;have m2:((P:Int)+1<(d:Int)+1)=False:=wi;simp (disch:=omega) only[List.append_assoc,hmx,m1,m2,go_sem]
   repeat' first|((first|apply qa|apply qc);exact rvk;simp only[go_sem];first|exact qi|apply qe|apply qd|apply qz|skip)|(with_reducible first|intro _|apply aiA)|exact clz|fail
   refine hN2 _ _ (h++ [.mem 1 90 [.str f,.str l,.int .i64 (N:Int)],.mem 1 3 [.int .i64 0],.mem 1 3 [.int .i64 0],.mem 1 3 [.int .i64 ((d+1:Nat):Int)]]) (by simp) (by simp) ⟨om,by rw[en1,en1]⟩
  ·subst gd;have hpq:i=a∧k=b-1:=by
    have:=hik.symm.trans p2
    simpa using this
   obtain⟨hpa,hpb⟩:=hpq;have en: ∀x,fiV d d x=0:=λx=>ine om
   have en1: ∀x:Nat,fiV d (d+1) x=x:=λx=>ipo om
   rw[en,en];have m1:((d:Int)+1=(d:Int)+1)=True:=eqt rfl;have m2:((d:Int)+1<(d:Int)+1)=False:=wi;have m3:(i:Int)=a:=by omega
   have m4:(k:Int)+1=b:=by omega
   simp (disch:=omega) only[List.append_assoc,hmx,m1,m2,m3,m4,go_sem]
   repeat' first|((first|apply qa|apply qc);exact rvk;simp only[go_sem];first|exact qi|apply qe|apply qd|apply qz|skip)|(with_reducible first|intro _|apply aiA)|exact clz|fail
   refine hN2 _ _ (h++ [.mem 1 90 [.str f,.str l,.int .i64 (N:Int)],.mem 1 3 [.int .i64 (a:Int)],.mem 1 3 [.int .i64 (b:Int)],.mem 1 3 [.int .i64 ((d+1:Nat):Int)]]) (by simp) (by simp) ⟨om,by rw[en1,en1]⟩
  ·obtain rfl:d=P+1:=by omega
   have en: ∀x:Nat,fiV P (P+1) x=x:=λx=>ipo om
   rw[en,en];have m0:((P+1:Nat):Int)=(P:Int)+1:=by omega
   have m1:((P:Int)+1+1=(P:Int)+1)=False:=wi;have m2:((P:Int)+1<(P:Int)+1+1)=True:=wh;simp (disch:=omega) only[List.append_assoc,hmx,m0,m1,m2,go_sem]
   repeat' first|((first|apply qa|apply qc);exact rvk;simp only[go_sem];first|exact qi|apply qe|apply qd|apply qz|skip)|(with_reducible first|intro _|apply aiA)|exact clz|fail
   refine hE _ _ _ (h++ [.mem 1 90 [.str f,.str l,.int .i64 (N:Int)],.mem 1 3 [.int .i64 (a:Int)],.mem 1 3 [.int .i64 (b:Int)],.mem 1 3 [.int .i64 ((P+2:Nat):Int)]]) (by simp;omega) (by simp) ⟨rfl,om,by simp⟩
 case a6=>
  rintro hh ⟨hd,rfl⟩;rw[kl,<-eX]at hd ⊢;have hX1:X.length=P+1:=by omega
  have en: ∀x:Nat,fiV P (P+1) x=x:=λx=>ipo om
  rw[hX1,en,en];have m0:((P+1:Nat):Int)=(P:Int)+1:=by omega
  have m1:((P:Int)+1=0)=False:=wi
  by_cases g:P=0
  ·have hN0:N=0:=by rw[eN,ipo om]
   have m2:((N:Int)=0)=True:=wh;have m3:((1:Int)<(P:Int)+1)=False:=wi;have m4:((0:Int)<(N:Int))=False:=wi;simp (disch:=omega) only[List.append_assoc,m0,m1,m2,m3,m4,go_sem]
   repeat' first|((first|apply qa|apply qc);exact rvk;simp only[go_sem];first|exact qi|apply qe|apply qd|apply qz|skip)|(with_reducible first|intro _|apply aiA)|exact clz|fail
  ·have hN0:N=P+1:=by rw[eN,ine om]
   have m2:((N:Int)=0)=False:=wi;have m4:((0:Int)<(N:Int))=True:=wh;have m5:((P:Int)+1=1)=False:=wi;have m6:((P:Int)+1<(N:Int))=False:=wi;simp (disch:=omega) only[List.append_assoc,m0,m1,m2,m4,m5,m6,go_sem]
   repeat' first|((first|apply qa|apply qc);exact rvk;simp only[go_sem];first|exact qi|apply qe|apply qd|apply qz|skip)|(with_reducible first|intro _|apply aiA)|exact clz|fail
 case a7=>
  rintro e hh ⟨rfl,h1,rfl⟩;have hN0:N=P+1:=by rw[eN,ine om]
  have m0:((P+2:Nat):Int)=(P:Int)+2:=by omega
  have m1:((P:Int)+2=0)=False:=wi;have m2:((N:Int)=0)=False:=wi;have m4:((0:Int)<(N:Int))=True:=wh;have m5:((P:Int)+2=1)=False:=wi;have m6:((P:Int)+2<(N:Int))=False:=wi;simp (disch:=omega) only[List.append_assoc,m0,m1,m2,m4,m5,m6,go_sem]
  repeat' first|((first|apply qa|apply qc);exact rvk;simp only[go_sem];first|exact qi|apply qe|apply qd|apply qz|skip)|(with_reducible first|intro _|apply aiA)|exact clz|fail
end RC
end
section
open Go Go.Proofs AF
def qfB:List Nat:= [117,193]
def qDy:C:=
 (vS [⟨some 2,none,.alloc 0 90 [.str [],.str [],i6 0],[]⟩,vM 3 0] ((vS [MV 13 0,O1 14 .slen 13,vN 15 .gtr 14 65536] (vT 15 (vV [⟨some 16,none,.build [.str [],.str [],i6 0]
 [],[]⟩,ST 3 2 16,vM 3 4]))).seq (vS [MV 17 0,OC 18 (.call 117 false) 17 (.str [32]),MV 4 18] ((vS [MV 19 4,O1 20 .len 19,vN 21 .neq 20 1,MV 22 21,MG 23 22 true 4,P1 24 22 true
 .len 23,PC 25 22 true (.bin .neq) 24 (i6 3),MG 26 22 true 25,vQ 27 26 4,vR 28 26 (.idxA 1) 27 (i6 1),v6 29 26 28,vR 30 26 (.bin .neq) 29 (.str [43]),QT 31 22 true 26 30,PF 32
 22 31] (vT 32 (vV [⟨some 33,none,.build [.str [],.str [],i6 0] [],[]⟩,ST 3 2 33,vM 3 3]))).seq (vS [⟨some 5,none,.alloc 1 90 [.str [],.str [],i6 0],[]⟩] (vS [MV 34 4,MV 35 4,O1
 36 .len 35,vN 37 .sub 36 1,O2 38 (.idxA 1) 34 37,MV 6 38] (vS [MV 40 6,O1 41 .nilchk 40,LD 42 41,OC 43 (.call 118 true) 42 (.str [35]),MV 39 43,O1 44 (.ext 0) 39,O1 45 (.ext 1)
 39,O1 46 (.ext 2) 39,MV 7 44,MV 8 45,MV 9 46] ((vS [MV 47 9] (vT 47 (vS [MV 49 8,O1 50 (.call 119 true) 49,MV 48 50,O1 51 (.ext 0) 48,O1 52 (.ext 1) 48,MV 10 51,MV 11 52] ((vS
 [MV 53 11,O1 54 (.un UnOp.not) 53] (vT 54 (vV [⟨some 55,none,.build [.str [],.str [],i6 0] [],[]⟩,ST 3 2 55,vM 3 3]))).seq (vW [MV 56 6,MV 57 10,MV 58 7,vL 59 2 5,ST 1 59 57,O1
 60 .nilchk 56,ST 1 60 58]))))).seq (vS [MV 61 4,OC 62 (.idxA 1) 61 (i6 0),LD 63 62,vL 64 0 5,ST 1 64 63] ((vS [MV 65 4,O1 66 .len 65,vN 67 .eql 66 3] (vT 67 (vS [MV 68 4,OC 69
 (.idxA 1) 68 (i6 2),LD 70 69,vL 71 1 5,ST 1 71 70] (vS [vL 72 1 5,LD 73 72,BC 74 .eql 73 (.str [])] (vT 74 (vV [⟨some 75,none,.build [.str [],.str [],i6 0] [],[]⟩,ST 3 2 75,vM
 3 11])))))).seq ((vS [O1 76 (.load (some 3)) 5,O1 77 (.call 115 true) 76,MV 12 77] (vS [MV 78 12,vN 79 .neq 78 0] (vT 79 (vV [⟨some 80,none,.build [.str [],.str [],i6 0]
 [],[]⟩,MV 81 12,ST 3 2 80,MV 3 81])))).seq (vV [O1 82 (.load (some 3)) 5,ST 3 2 82,vM 3 0]))))))))))))
theorem qCm:qK Tryz.prog 51 83 3 [RV.cell 2 (some 3),RV.tmp 3] qDy:=fi Tryz.f51 [2,5,18] qfB []
def qws:C:=
 (vS [ON 4 (.nilo 0 1 9) []] (vV [MV 5 0,MV 6 1,ON 7 (.call 193 false) [.t 5,.t 6,.c (i6 0),.c (i6 (-1))],MV 4 7]))
theorem qxY:qK Tryz.prog 117 8 2 [RV.tmp 4] qws:=fi Tryz.f117 [4,7] qfB []
def qwL:C:=
 (vS [ON 8 (.nilo 0 1 9) []] ((vS [MV 12 3,vN 13 .eql 12 0] (vT 13 (vV [ON 8 (.nilo 0 1 9) []]))).seq ((vS [MV 14 1,BC 15 .eql 14 (.str [])] (vT 15 (vV [MV 16 0,MV 17 3,O2 18
 (.call 266 true) 16 17,MV 8 18]))).seq ((vS [MV 19 3,vN 20 .lss 19 0] (vT 20 (vW [MV 21 0,MV 22 1,O2 23 (.call 267 true) 21 22,vN 24 .add 23 1,MV 3 24]))).seq (vS [MV 25 3,MV
 26 0,O1 27 .slen 26,vN 28 .add 27 1,O2 29 (.mm false) 25 28,MV 3 29] (vS [MV 30 3,⟨some 31,none,.mkslc 1 1 9 [.str []] 16,[.t 30,.t 30]⟩,MV 9 31] (vS [MV 32 3,vN 33 .sub 32
 1,MV 3 33] (vS [vM 10 0] ((C.block 0 ((vS [MV 34 10,MV 35 3,BI 36 .lss 34 35] (vU 36 0)).seq (C.block 1 (vS [MV 37 0,MV 38 1,O2 39 (.call 268 true) 37 38,MV 11 39] ((vS [MV 40
 11,vN 41 .lss 40 0] (vT 41 (C.exit 0))).seq (vS [MV 42 9,MV 43 10,MV 44 0,MV 45 11,MV 46 2,BI 47 .add 45 46,O2 48 (.sslc false true) 44 47,O2 49 (.idxA 1) 42 43,ST 1 49 48] (vS
 [MV 50 0,MV 51 11,MV 52 1,O1 53 .slen 52,BI 54 .add 51 53,O2 55 (.sslc true false) 50 54,MV 0 55] (vX 56 10))))))).loop).seq (vS [MV 58 9,MV 59 10,MV 60 0,O2 61 (.idxA 1) 58
 59,ST 1 61 60] (vV [MV 62 9,MV 63 10,vN 64 .add 63 1,O2 65 (.slc 1 false true) 62 64,MV 8 65])))))))))))
theorem qyl:qK Tryz.prog 193 66 2 [RV.tmp 8] qwL:=fi Tryz.f193 [8,31] qfB []
end
section
open Go Go.Proofs AF HY LN
namespace RC
theorem ixS(s:Str)(c:UInt8)(h:we):ACalls Tryz.prog 269 [.str s,.str [c]] h (.int .i64 (Go.Lib.indexByte s c)) h:=by
 refine⟨qoh Tryz.func269 (by kernel_rfl) (by kernel_rfl),λw σ xs H hv=> ?_⟩;obtain⟨x,y,rfl,hx,hy⟩:=hv.two;rw[zZ hx,zZ hy];refine (callsIn_wide.2 (qeD ⟨s.toArray⟩ c w)).mono ?_;rintro e w' ⟨rfl,rfl⟩;exact⟨_,σ,rfl,H,.imm .int,Ext.refl _ _⟩
theorem qB5(s A B:Str)(c:UInt8)(h:we)(he:s=A++c::B)(hA:A.count c=0)(hs:s.length<=1000000000):ACalls Tryz.prog 194 [.str s,.str [c]] h (.tup [.str A,.str B,.bool true]) h:=by
 have c1:=λh=>ixS s c h
 have e0:Go.Lib.indexByte s c=A.length:=by rw[he];exact qlp hA
 have el:s.length=A.length+(B.length+1):=by rw[he];simp
 have e1:List.take A.length s=A:=by rw[he];simp
 have e2:List.take (s.length-(A.length+1)) (List.drop (A.length+1) s)=B:=by
  rw[he,List.drop_append,List.drop_of_length_le om,show A.length+1-A.length=1 by omega];exact ltl (by simp;omega)
 rw[e0]at c1;have k1:(0<=(A.length:Int))=True:=wh;have k2:((A.length:Int)+((1:Nat):Int)).toNat=A.length+1:=by omega
 have k3:((A.length:Int)+1).toNat=A.length+1:=by omega
 refine acO qrJ ?_;simp (disch:=omega) only[qsQ,go_sem]
 repeat' first|((first|refine cA (c1 _) ?_ ?_|refine cG (λe=>c1 _) ?_ ?_|refine cU (λ_=>c1 _) ?_ ?_);exact flk;simp (disch:=omega) only[k1,k2,k3,e1,e2,Nat.sub_zero,List.drop_zero,go_sem])|((first|apply qa|apply qc);exact rvk;simp only[go_sem];first|exact qi|apply qe|apply qd|apply qz|skip)|(with_reducible first|intro _|apply aiA)|exact clz|fail
theorem qB4(s:Str)(c:UInt8)(h:we)(hc:s.count c=0):ACalls Tryz.prog 194 [.str s,.str [c]] h (.tup [.str s,.str [],.bool false]) h:=by
 have c1:=λh=>ixS s c h
 rw[qhX c s hc]at c1;refine acO qrJ ?_;simp (disch:=omega) only[qsQ,go_sem]
 repeat' first|((first|refine cA (c1 _) ?_ ?_|refine cG (λe=>c1 _) ?_ ?_|refine cU (λ_=>c1 _) ?_ ?_);exact flk;simp (disch:=omega) only[go_sem])|((first|apply qa|apply qc);exact rvk;simp only[go_sem];first|exact qi|apply qe|apply qd|apply qz|skip)|(with_reducible first|intro _|apply aiA)|exact clz|fail
theorem qDK(s A B:Str)(c:UInt8)(h:we)(he:s=A++c::B)(hA:A.count c=0)(hs:s.length<=1000000000):ACalls Tryz.prog 118 [.str s,.str [c]] h (.tup [.str A,.str B,.bool true]) h:=by
 have c1:=λh=>qB5 s A B c h he hA hs
 refine acO qrE ?_;simp (disch:=omega) only[qsM,go_sem]
 repeat' first|((first|refine cA (c1 _) ?_ ?_|refine cG (λe=>c1 _) ?_ ?_|refine cU (λ_=>c1 _) ?_ ?_);exact flk;simp (disch:=omega) only[go_sem])|((first|apply qa|apply qc);exact rvk;simp only[go_sem];first|exact qi|apply qe|apply qd|apply qz|skip)|(with_reducible first|intro _|apply aiA)|exact clz|fail
theorem qDJ(s:Str)(c:UInt8)(h:we)(hc:s.count c=0):ACalls Tryz.prog 118 [.str s,.str [c]] h (.tup [.str s,.str [],.bool false]) h:=by
 have c1:=λh=>qB4 s c h hc
 refine acO qrE ?_;simp (disch:=omega) only[qsM,go_sem]
 repeat' first|((first|refine cA (c1 _) ?_ ?_|refine cG (λe=>c1 _) ?_ ?_|refine cU (λ_=>c1 _) ?_ ?_);exact flk;simp (disch:=omega) only[go_sem])|((first|apply qa|apply qc);exact rvk;simp only[go_sem];first|exact qi|apply qe|apply qd|apply qz|skip)|(with_reducible first|intro _|apply aiA)|exact clz|fail
theorem qC1(s:Str)(c:UInt8)(h:we)(k:Nat)(hk:qH h k=true)(hs:s.length<=1000000000):ACalls Tryz.prog 193 [.str s,.str [c],.int .i64 0,.int .i64 (-1)] h (.osl k (qo (qq k h)+1) 1 0 (jN c s).length) (qn k h (.mem (qo (qq k h)+1) 9 (jH (jN c s)))):=by
 have c100:=λh=>qFd s c h
 have hcl:s.count c<=s.length:=List.count_le_length;obtain⟨N,hN⟩:=wc (s.count c)
 have k1:((N:Int)+1<=(s.length:Int)+1)=True:=wh;have e1:min ((N:Int)+1) ((s.length:Int)+1)=(N:Int)+1:=by omega
 have e2:((N:Int)+1).toNat=N+1:=by omega
 have e3:zf [AV.str []] (N+1)=jH (UN c s 0):=by rw[qh1,<-qiz,hN]
 have e4:((N:Int)+1-1)=N:=by omega
 simp only[<-hN]at c100;refine qbR qyl k (by simp) ?_;simp only[lco,lnl,Nat.reduceAdd,Nat.reduceSub,List.replicate,lca,lna,lan];simp (disch:=omega) only[qwL,k1,e1,e2,e3,e4,go_sem]
 repeat' first|((first|refine cA (c100 _) ?_ ?_|refine cG (λe=>c100 _) ?_ ?_|refine cU (λ_=>c100 _) ?_ ?_);exact flk;simp (disch:=omega) only[k1,e1,e2,e3,e4,go_sem])|((first|apply qa|apply qc);exact rvk;simp only[go_sem];first|exact qi|apply qe|apply qd|apply qz|skip)|(with_reducible first|intro _|apply aiA)|exact clz|fail
 refine qt (T:=λi:Nat=>zg 66 [(0,.str (cF c s i)),(1,.str [c]),(2,.int .i64 0),(3,.int .i64 N),(9,.osl (h.length+1) 1 1 0 (N+1)),(10,.int .i64 i)]) (H:=λi=>h++ [.emp 1,.mem 1 9 (jH (UN c s i))])
  (inv:=λi=>i<=N) (m:=λi=>N-i) 0 om (Wk.temps ?_) ?_
 ·(simp only[cF,go_sem,qh,qf,qb,qg];try exact wa)
 rintro i i1 K hK;have eL:=cV (UN c s i);rw[qe4,<-hN]at eL;have hst:=qq0 (UN c s i) (i:=i) (kF c s i) (by rw[qe4];omega);rw[qng c s om]at hst
 by_cases hi:i<N
 ·obtain⟨r,hr⟩:=wc (cF c s i)
  have hcr:=qhD c s i om;rw[<-hr]at hcr;have hix:=qeA c r om;have hlt:=qo3 c r om;have hrl:=qqF c s i;rw[<-hr]at hrl;have hP:kF c s i=r.take (UU c r):=by unfold kF;rw[ipo om,<-hr]
  have hR:cF c s (i+1)=r.drop (UU c r+1):=by rw[hr];rfl
  obtain⟨m,hm⟩:=wc (UU c r)
  rw[<-hm]at hix hlt hP hR;have c101:=λh=>qFe r c h
  simp only[hix]at c101;rw[hP]at hst;simp (disch:=omega) only[zg,List.foldl,hr.symm,eL,hst,go_sem]
  repeat' first|((first|refine cA (c101 _) ?_ ?_|refine cG (λe=>c101 _) ?_ ?_|refine cU (λ_=>c101 _) ?_ ?_);exact flk;simp (disch:=omega) only[eL,hst,go_sem])|((first|apply qa|apply qc);exact rvk;simp only[go_sem];first|exact qi|apply qe|apply qd|apply qz|skip)|(with_reducible first|intro _|apply aiA)|exact clz|fail
  have f1:(((m:Nat):Int)+0).toNat-0=m:=by omega
  have f2:(((m:Nat):Int)+((1:Nat):Int)).toNat=m+1:=by omega
  have f3:List.take (r.length-(m+1)) (List.drop (m+1) r)=cF c s (i+1):=by rw[hR];exact ltl (by rw[List.length_drop];exact nlr _)
  rw[f1,hst,f2,f3];refine hK _ _ (i+1) om om (Wk.temps ?_)
  (simp only[go_sem,qh,qf,qb,qg];try exact wa)
 ·have e:i=N:=by omega
  subst e;simp (disch:=omega) only[zg,List.foldl,eL,hst,go_sem]
  repeat' first|((first|apply qa|apply qc);exact rvk;simp only[go_sem];first|exact qi|apply qe|apply qd|apply qz|skip)|(with_reducible first|intro _|apply aiA)|exact clz|fail
  have hP:kF c s i=cF c s i:=by unfold kF;rw[ine om]
  have f1:(((i:Nat):Int)+1).toNat-0=i+1:=by omega
  have hall:=qnf c s;rw[<-hN]at hall;rw[hP,hall]at hst;rw[hst,f1];have hlc:i+1=(jN c s).length:=by rw[qiw,hN]
  exact⟨h.length+1,1,1,0,i+1,9,jH (jN c s),_,⟨trivial,trivial⟩,rfl,rfl,om,by simp only[go_sem],qg5 _ _,hk,by rw[hlc],rfl⟩
theorem qEZ(s:Str)(c:UInt8)(h:we)(k:Nat)(hk:qH h k=true)(hs:s.length<=1000000000):ACalls Tryz.prog 117 [.str s,.str [c]] h (.osl k (qo (qq k h)+1) 1 0 (jN c s).length) (qn k h (.mem (qo (qq k h)+1) 9 (jH (jN c s)))):=by
 refine qbR qxY k (by simp) ?_;simp only[lco,lnl,Nat.reduceAdd,Nat.reduceSub,List.replicate,lca,lna,lan];simp (disch:=omega) only[qws,go_sem];refine qy (qC1 s c _ (h.length+1) (by simp only[go_sem]) hs) (by exact flk) ?_;simp (disch:=omega) only[go_sem]
 repeat' first|(with_reducible apply aiA)|(with_reducible intro _)
 exact⟨h.length+1,1,1,0,_,9,jH (jN c s),_,⟨trivial,trivial⟩,rfl,rfl,om,by simp only[go_sem],qg5 _ _,hk,rfl,rfl⟩
theorem qEk{n:Nat}(h0:n≠0)(hn:n<=65536):qo7 (Lib.itoa (n:Int))=true∧qrC (Lib.itoa (n:Int))=n:=by
 have h1:=gz (n:=(n:Int)) om om;have h2:=UJ hn;unfold qo7 qrC;rw[h1];simp only[Bool.and_eq_true,decide_eq_true_eq];exact⟨⟨om,h2,trivial⟩,trivial⟩
theorem qCG(f l:Str)(n:Nat)(h:we)(hk:qrt f l n)(hp:ku SG h):ACalls Tryz.prog 51 [.str (prS f l n)] h (.tup [.agg [.str f,.str l,.int .i64 (n:Int)],.int .i64 0]) h:=by
 obtain⟨a1,a2,a3,a4,a5,a6⟩:=hk.cs;have hn:=hk.n;obtain⟨b1,b2⟩:=qz3 a5 a6 hn;have eS:=qdG (n:=n) a1 a3;have c1:=λk (H:we) (hkk:qH H k=true)=>qEZ (prS f l n) 32 H k hkk om
 rw[eS]at c1;have c7:=λl'=>que f l n (h++l') hk (hp.app l')
 obtain⟨s,hs⟩:=wc (prS f l n)
 rw[<-hs]at b1 ⊢;simp only[<-hs]at c1;have k0:((65536:Int)<s.length)=False:=wi;have i3:((3:Nat):Int)=3:=rfl;have i1:((1:Nat):Int)=1:=rfl;have q1:((3:Int)=1)=False:=wi;have q2:((3:Int)=3)=True:=eqt rfl;have q3:((1:Int)=1)=True:=eqt rfl;have q4:((1:Int)=3)=False:=wi;have s1:(3:Int)-1=2:=by omega
 have s2:(1:Int)-1=0:=by omega
 have t2:Int.toNat 2=2:=rfl;have r1: ∀(x y z:AV),[x,y,z][1]?.getD .undef=y:=λ_ _ _=>rfl
 have r2: ∀(x y z:AV),[x,y,z][2]?.getD .undef=z:=λ_ _ _=>rfl
 have r0: ∀(x y z:AV),[x,y,z][0]?.getD .undef=x:=λ_ _ _=>rfl
 have r3: ∀(x:AV),[x][0]?.getD .undef=x:=λ_=>rfl
 have w3: ∀(x y z v:AV),List.take 2 [x,y,z]++ [v]++List.drop (2+1) [x,y,z]= [x,y,v]:=λ_ _ _ _=>rfl
 have w1: ∀(x v:AV),List.take 0 [x]++ [v]++List.drop (0+1) [x]= [v]:=λ_ _=>rfl
 by_cases g1:l= []
 case' pos=>
  have eP:prP f l n= [f++pnN n]:=ipo g1;have z2:=λh (h0:n=0)=>qDJ f 35 h a2
  have z3:=λh (h0:n≠0)=>qDK (f++35::Lib.itoa (n:Int)) f (Lib.itoa (n:Int)) 35 h rfl a2 (by have:=UJ hn;rw[lap,lco];omega)
  have k1:(l= [])=True:=eqt g1;subst g1
 case' neg=>
  have eP:prP f l n= [f,[43],l++pnN n]:=ine g1;have z2:=λh (h0:n=0)=>qDJ l 35 h a4
  have z3:=λh (h0:n≠0)=>qDK (l++35::Lib.itoa (n:Int)) l (Lib.itoa (n:Int)) 35 h rfl a4 (by have:=UJ hn;rw[lap,lco];omega)
  have k1:(l= [])=False:=eqf g1
 all_goals
  rw[eP]at c1
  by_cases g2:n=0
  case' pos=>
   have eN:pnN n= []:=ipo g2;have c2:=λh=>z2 h g2
   have k2:(n:Int)=0:=by omega
   rw[k2]at c7;rw[eN,lan]at c1;have c4:=λl'=>qB6 [] (h++l') (by simp) (hp.app l')
   subst g2
  case' neg=>
   have eN:pnN n=35::Lib.itoa (n:Int):=ine g2;have c2:=λh=>z3 h g2
   rw[eN]at c1;have c4:=λl'=>qB6 (Lib.itoa (n:Int)) (h++l') (by have:=UJ hn;omega) (hp.app l')
   obtain⟨d1,d2⟩:=qEk g2 hn;rw[d1,d2]at c4;have k2:True:=trivial
 all_goals
  refine acO qCm ?_;simp (disch:=omega) only[qDy,k0,go_sem]
  repeat' first|(with_reducible apply aiA)|(with_reducible intro _)|exact clz|fail
  refine qy (c1 (h.length+2) _ (by simp only[go_sem])) (by exact flk) ?_;simp (disch:=omega) only[jH,k1,i3,i1,q1,q2,q3,q4,s1,s2,t2,r0,r1,r2,r3,w3,w1,Int.toNat_one,Int.toNat_zero,go_sem]
  repeat' first|((first|refine cA (c2 _) ?_ ?_|refine cG (λe=>c2 _) ?_ ?_|refine cA (c4 _) ?_ ?_|refine cG (λe=>c4 _) ?_ ?_|refine cA (c7 _) ?_ ?_|refine cG (λe=>c7 _) ?_ ?_|refine cU (λ_=>c2 _) ?_ ?_|refine cU (λ_=>c4 _) ?_ ?_|refine cU (λ_=>c7 _) ?_ ?_);exact flk;simp (disch:=omega) only[jH,k1,i3,i1,q1,q2,q3,q4,s1,s2,t2,r0,r1,r2,r3,w3,w1,Int.toNat_one,Int.toNat_zero,go_sem])|((first|apply qa|apply qc);exact rvk;simp only[go_sem];first|exact qi|apply qe|apply qd|apply qz|skip)|(with_reducible first|intro _|apply aiA)|exact clz|fail
 all_goals trace_state
 all_goals sorry
theorem jk{α:Type}{L:List α}{a:α}{i:Nat}(h:i<L.length):L.getD i a∈L:=by
 rw[gdqA,zH h];exact List.getElem_mem h
theorem qdp{α:Type}{L:List α}{a b:α}{i:Nat}(h:i<L.length):(L.set i b).getD i a=b:=by
 rw[gdqA,List.getElem?_set,ipo rfl,ipo h];rfl
def bgn(c:UInt8):Bool:=decide (kind c=1)||decide (kind c=3)
theorem U8{c:UInt8}(h:bgn c=true):UX c=true:=by
 unfold bgn at h;unfold UX;rw[Bool.or_eq_true]at h ⊢;rcases h with h|h
 ·exact .inl h
 ·exact .inr (by rw[h];rfl)
def tkF(f:Int)(w:Str):Tk:=⟨w,[],[],0,f,[]⟩
structure Bs where
 done:List Tk
 opn:Bool
 fl:Int
 word:Str
 jn:Bool
def Bs.fin(b:Bs):List Tk:=b.done++if b.opn=true then [tkF b.fl b.word] else []
def Bs.out(b:Bs):List Tk:=b.done++if b.opn=true then [tkF b.fl []] else []
def jfl(j:Bool)(n:Nat):Int:=if j=true∧0<n then 16 else 0
def Bs.stp(b:Bs)(c:UInt8):Bs:=
 if b.opn=true∧UX c=true then ⟨b.done,true,b.fl,b.word++ [c],b.jn⟩
 else if bgn c=true then ⟨b.fin,true,jfl b.jn b.fin.length,[c],true⟩
 else if kind c=6 then ⟨b.fin,false,0,[],false⟩
 else ⟨b.fin++ [tkF (8+jfl b.jn b.fin.length) [c]],false,0,[],true⟩
def bs0:Bs:=⟨[],false,0,[],false⟩
def bsL(s:Str):Bs:=s.foldl Bs.stp bs0
theorem qdf(s:Str)(c:UInt8):bsL (s++ [c])=(bsL s).stp c:=by unfold bsL;rw[List.foldl_append];rfl
def tkN(t:Tk):Tk:=⟨t.text,t.text,t.page,t.line,t.flags,t.name⟩
def qax(s:Str):List Tk:=(bsL s).fin
def qed(s:Str):List Tk:=(qax s).map tkN
def qug(L:List Tk):Bool:=jK (λj=>decide (64<(L.getD j default).text.length)) L.length
def qhb(s:Str):Int:=if qug (qax s)=true then 4 else 0
def TkG(t:Tk):Prop:=t=tkF t.flags t.text∧(((t.flags=0∨t.flags=16)∧ ∃c r,t.text=c::r∧bgn c=true∧ ∀b∈r,UX b=true)∨((t.flags=8∨t.flags=24)∧ ∃c,t.text= [c]∧bgn c=false∧kind c≠6))
structure qoj (s:Str) (b:Bs):Prop where
 cl:b.opn=false->b.word= []∧b.fl=0
 op:b.opn=true->TkG (tkF b.fl b.word)∧b.jn=true∧(b.fl=0∨b.fl=16)
 dn: ∀t∈b.done,TkG t
 len:b.fin.length<=s.length
 cat:(b.fin.map Tk.text).flatten=s.filter λc=> !decide (kind c=6)
theorem Bs.fin_ok{s:Str}{b:Bs}(h:qoj s b): ∀t∈b.fin,TkG t:=by
 intro t ht;unfold Bs.fin at ht;rcases List.mem_append.1 ht with ht|ht
 ·exact h.dn t ht
 ·split at ht
  ·rename_i ho;rw[List.mem_singleton]at ht;subst ht;exact (h.op ho).1
  ·cases ht
theorem qlq{c:UInt8}(h:UX c=true):kind c≠6:=by
 unfold UX at h;simp only[Bool.or_eq_true,decide_eq_true_eq]at h;omega
theorem qeE(j:Bool)(n:Nat):jfl j n=0∨jfl j n=16:=by
 unfold jfl;split
 ·exact .inr rfl
 ·exact .inl rfl
theorem qag(s:Str)(c:UInt8):(s++ [c]).filter (λc=> !decide (kind c=6))=s.filter (λc=> !decide (kind c=6))++if kind c=6 then [] else [c]:=by
 rw[List.filter_append];congr 1
 by_cases h:kind c=6
 ·simp[h]
 ·simp[h]
theorem qAB{s:Str}{b:Bs}(h:qoj s b)(c:UInt8):qoj (s++ [c]) (b.stp c):=by
 have hf:=Bs.fin_ok h;have hl:=h.len;have hc:=h.cat;unfold Bs.stp;split
 ·rename_i g;obtain⟨g1,g2⟩:=g;obtain⟨⟨_,k1⟩,k2,k3⟩:=h.op g1;have kw: ∃e r,b.word=e::r∧bgn e=true∧ ∀x∈r,UX x=true:=by
   rcases k1 with⟨_,k⟩|⟨k,_⟩
   ·exact k
   ·exact absurd k (by have:(tkF b.fl b.word).flags=b.fl:=rfl;rw[this];omega)
  refine⟨λe=>(by cases e),λ_=>⟨⟨rfl,.inl ⟨k3,?_⟩⟩,k2,k3⟩,h.dn,?_,?_⟩
  ·obtain⟨e,r,e1,e2,e3⟩:=kw;refine⟨e,r++ [c],?_,e2,λx hx=> ?_⟩
   ·show b.word++ [c]=_;rw[e1];rfl
   ·rcases List.mem_append.1 hx with hx|hx
    ·exact e3 x hx
    ·rw[List.mem_singleton]at hx;subst hx;exact g2
  ·unfold Bs.fin at hl ⊢;simp only[g1,if_true,lap,lco,lnl]at hl ⊢;omega
  ·unfold Bs.fin at hc ⊢;rw[qag,ine (qlq g2),<-hc];simp[g1,tkF]
 rename_i g;split
 ·rename_i g2;have j:=qeE b.jn b.fin.length;refine⟨λe=>(by cases e),λ_=>⟨⟨rfl,.inl ⟨j,c,[],rfl,g2,λx hx=>by cases hx⟩⟩,rfl,j⟩,hf,?_,?_⟩
  ·show (b.fin++ [_]).length<=_;simp only[lap,lco,lnl];omega
  ·show ((b.fin++ [tkF _ [c]]).map Tk.text).flatten=_;rw[qag,ine (qlq (U8 g2)),List.map_append,List.flatten_append,hc];rfl
 rename_i g2;have g2:bgn c=false:=by simpa using g2
 split
 ·rename_i g3;refine⟨λ_=>⟨rfl,rfl⟩,λe=>(by cases e),hf,?_,?_⟩
  ·show (b.fin++ []).length<=_;simp only[lap,lnl,lco];omega
  ·show ((b.fin++ []).map Tk.text).flatten=_;rw[lan,qag,ipo g3,hc,lan]
 ·rename_i g3;have j:=qeE b.jn b.fin.length;refine⟨λ_=>⟨rfl,rfl⟩,λe=>(by cases e),λt ht=> ?_,?_,?_⟩
  ·rcases List.mem_append.1 ht with ht|ht
   ·exact hf t ht
   ·rw[List.mem_singleton]at ht;subst ht;refine⟨rfl,.inr ⟨?_,c,rfl,g2,g3⟩⟩;show 8+jfl b.jn b.fin.length=8∨8+jfl b.jn b.fin.length=24;omega
  ·show (b.fin++ [_]++ []).length<=_;simp only[lap,lnl,lco];omega
  ·show ((b.fin++ [tkF _ [c]]++ []).map Tk.text).flatten=_;rw[lan,qag,ine g3,List.map_append,List.flatten_append,hc];rfl
theorem qel(s:Str):qoj s (bsL s):=by
 have key: ∀n,n<=s.length->qoj (s.take n) (bsL (s.take n)):=by
  intro n
  induction n with
  |zero=>intro _;exact⟨λ_=>⟨rfl,rfl⟩,λe=>(by cases e),λt ht=>(by cases ht),nlr _,rfl⟩
  |succ n ih=>
   intro hn;rw[List.take_add_one,zH hn];show qoj (s.take n++ [s[n]]) (bsL (s.take n++ [s[n]]));rw[qdf];exact qAB (ih om) _
 have:=key s.length (nlr _)
 rwa [List.take_length]at this
theorem qhd(s:Str): ∀t∈qax s,TkG t:=Bs.fin_ok (qel s)
theorem qe8(s:Str):(qax s).length<=s.length:=(qel s).len
theorem qdZ(s:Str):(qed s).length<=s.length:=by unfold qed;rw[List.length_map];exact qe8 s
theorem TkG.ne{t:Tk}(h:TkG t):t.text≠ []:=by
 rcases h.2 with⟨_,c,r,e,_⟩|⟨_,c,e,_⟩<;>rw[e]<;>exact List.cons_ne_nil _ _
theorem qb8{L:List Str}{w:Str}(h:w∈L):w.length<=L.flatten.length:=by
 induction L with
 |nil=>cases h
 |cons a r ih=>
  rw[List.flatten_cons,lap];rcases List.mem_cons.1 h with rfl|h
  ·omega
  ·have:=ih h;omega
theorem qf6(s:Str){t:Tk}(ht:t∈qed s): ∃u,TkG u∧t=tkN u∧u∈qax s:=by
 unfold qed at ht;obtain⟨u,hu,rfl⟩:=List.mem_map.1 ht;exact⟨u,qhd s u hu,rfl,hu⟩
theorem qcR{L:List Tk}:qug L=false↔ ∀t∈L,t.text.length<=64:=by
 unfold qug;rw[qu];constructor
 ·intro h t ht;obtain⟨j,hj,rfl⟩:=List.getElem_of_mem ht
  have:=of_decide_eq_false (h j hj)
  rw[gdqA,zH hj,Option.getD_some]at this;omega
 ·intro h j hj
  have:=h (L.getD j default) (by rw[gdqA,zH hj];exact List.getElem_mem hj)
  exact dqf om
def qi6(s:Str):Int:=if zG s≠0 then zG s else qhb s
def qsj(s:Str):List Str:=if qi6 s=0 then (qed s).map Tk.text else []
structure Dc where
 kind:Int
 sig:Str
 tok:Int
 txt:Str
instance:Inhabited Dc:=⟨⟨0,[],0,[]⟩⟩
def dcC(d:Dc):wg:= [.int .i64 d.kind,.str d.sig,.int .i64 d.tok,.str d.txt]
def qaH(l:List Dc):AV:= .sl l.length λi=>dcC (l.getD i default)
theorem qkX(l:List Dc):(qaH l).flag=true:=rfl
theorem qiE(l:List Dc):(qaH l).strip=qaH l:=rfl
theorem qqz{fz:Nat->Bool}{h:we}{n:Nat}(l:List Dc):rei fz h (n+1) (qaH l)=qaH l:=rfl
theorem qpy{fz:Nat->Bool}{h:we}{n:Nat}(l:List Dc):frz fz h (n+1) (qaH l)=qaH l:=rfl
attribute [go_sem] qkX qiE qqz qpy
end RC
end
