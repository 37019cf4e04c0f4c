import Derived.Test.YtmieflnoheifbaaGreatDoorK13
import Derived.Test.YtmieflnoheifbaaGreatDoorK12
import Derived.Test.YtmieflnoheifbaaGreatDoorK11
import Derived.Test.YtmieflnoheifbaaGreatDoorK3
import Derived.Test.YtmieflnoheifbaaGreatDoorK5
import Derived.Test.YtmieflnoheifbaaGreatDoorK8
import Derived.Test.YtmieflnoheifbaaGreatDoorProg
import Derived.Test.YtmieflnoheifbaaGreatDoorK9
import Derived.Shelf.Strings.BuilderX
import Derived.Shelf.RegionOpenPlain
import Derived.Lib.Strings
import Derived.Lib.Slices
import Derived.Lib.Walk
import Derived.Lib.Builder
import Derived.Lib.AppendStr
import Derived.Lib.UnsafeStr
import Derived.Lib.MakeNoZero
import Derived.WalkKit
import Derived.Laws.Externs
import Derived.RangeFuncBox
import Derived.Laws.Rows
import Derived.Test.YtmieflnoheifbaaGreatDoorK10
set_option linter.all false
set_option maxHeartbeats 128000000
set_option maxRecDepth 100000
section
open Go Go.Proofs AF HY LN
namespace RC
def soE(x:Co)(l:List Un)(b:List Wd)(i:Int):Int:=if pvE x l b≠0 then pvE x l b else if i<0∨(b.length:Int)<=i then 2 else 0
def soL(x:Co)(l:List Un)(b:List Wd)(i:Int):List Int:=if soE x l b i=0 then soK x l b i.toNat else []
def agE(x:Co)(l:List Un)(b:List Wd)(s:Int):Int:=if pvE x l b≠0 then pvE x l b else if s<0∨(x.sig.length:Int)<=s then 2 else 0
def agB(l:List Un)(b:List Wd)(s:Int)(u:Nat):Bool:=decide (((l.getD u default).rds.getD (aE (l.getD u default).rds s).toNat default).words=owG b (u:Int) b.length)
def agN(x:Co)(l:List Un)(b:List Wd)(s:Int):Int:=if agE x l b s=0 then (cP (agB l b s) l.length:Int) else 0
def agM(x:Co)(l:List Un)(b:List Wd)(s:Int):Int:=if agE x l b s=0 then (l.length:Int) else 0
theorem uT{x:Co}{l:List Un}{b:List Wd}(h:pvE x l b=0){i:Nat}(hi:i<b.length): -1<=(b.getD i default).unit∧(b.getD i default).unit<(l.length:Int):=by
 have hu:=(uS h).un2 i hi
 have:=xA l (b.getD i default).col
 omega
theorem Pn{x:Co}{l:List Un}{b:List Wd}(h:pvE x l b=0):vaE x l=0:=by
 unfold pvE at h;split at h
 ·rename_i h1;exact absurd h h1
 ·rename_i h1;exact Classical.not_not.1 h1
theorem im(x:Co)(l:List Un)(b:List Wd)(i:Int)(h:JN)(hz:yv x)(hu:aM l)(hb:b.length<=1000000)(ht: ∀i,(b.getD i default).text.length<=1000000000)(hn:x.sig.length<=1000000)(hp:kM SG h):
  ACalls Tryz.prog 21 [.agg (coC x),qZ l,jl b,.int .i64 i] h (.tup [qx (soL x l b i),.int .i64 (soE x l b i)]) h:=by
 have c38:=λl'=>pvP x l b (h++l') hz hu oma ht (hp.app l')
 have z1: ∀g,valL g .len [jl b]= .int .i64 b.length:=λ_=>rfl
 have z2: ∀g,okL g .len [jl b]=True:=λ_=>eqt trivial
 have nl0:VLe AV.nl (qx []):=qU;obtain⟨E,hE⟩:=Qt (soE x l b i)
 have hL:soL x l b i=if E=0 then soK x l b i.toNat else []:=by rw[hE];rfl
 rw[hL,<-hE];unfold soE at hE;unfold coC at c38
 by_cases g1:pvE x l b=0
 case neg=>
  rw[ipo g1]at hE;rw[hE,ine g1];have k1:(pvE x l b=0)=False:=eqf g1;refine acO JZ ?_;simp (disch:=omega) only[Ew,coC,go_sem]
  repeat' first|(refine cA (c38 _) flk ?_;simp (disch:=omega) only[k1,go_sem])|(apply qa;exact rvk;simp only[go_sem])
  exact bF ⟨nl0,qi,trivial⟩
 rw[ine (λhc=>hc g1)]at hE;simp only[g1]at c38
 by_cases g2:i<0
 ·have k2:(i<0)=True:=eqt g2;rw[ipo (.inl g2)]at hE;rw[hE,ine (by decide)];refine acO JZ ?_;simp (disch:=omega) only[Ew,coC,go_sem]
  repeat' first|(refine cA (c38 _) flk ?_;simp (disch:=omega) only[z1,z2,k2,go_sem])|(apply qa;exact rvk;simp only[go_sem])
  exact bF ⟨nl0,qi,trivial⟩
 have k2:(i<0)=False:=eqf g2
 by_cases g3:(b.length:Int)<=i
 ·have k3:((b.length:Int)<=i)=True:=eqt g3;rw[ipo (.inr g3)]at hE;rw[hE,ine (by decide)];refine acO JZ ?_;simp (disch:=omega) only[Ew,coC,go_sem]
  repeat' first|(refine cA (c38 _) flk ?_;simp (disch:=omega) only[z1,z2,k2,k3,go_sem])|(apply qa;exact rvk;simp only[go_sem])
  exact bF ⟨nl0,qi,trivial⟩
 have k3:((b.length:Int)<=i)=False:=eqf g3;rw[ine (λhc=>hc.elim g2 g3)]at hE;rw[hE,ipo rfl];obtain⟨j,rfl⟩: ∃j:Nat,i=(j:Int):=⟨i.toNat,oma⟩
 rw[itn];have c84:=λh=>Lq x l b j h hu hb oma hn (uT g1 oma).2
 unfold coC at c84;refine acO JZ ?_;simp (disch:=omega) only[Ew,coC,go_sem]
 repeat' first|((first|refine cA (c38 _) ?_ ?_|refine cA (c84 _) ?_ ?_);exact flk;simp (disch:=omega) only[z1,z2,k2,k3,go_sem])|exact tF|fail
theorem VA{x:Co}{l:List Un}(ho:Nk x l){u:Nat}(hul:u<l.length){s:Int}(h1:0<=s)(h2:s<x.sig.length):0<=ff (l.getD u default).rds s∧ff (l.getD u default).rds s<(l.getD u default).rds.length∧aE (l.getD u default).rds s=ff (l.getD u default).rds s∧s∈((l.getD u default).rds.getD (ff (l.getD u default).rds s).toNat default).src:=by
 have hmem:l.getD u default∈l:=by rw[gdqA,zg hul];exact List.getElem_mem hul
 have hr:=(ho.rg _ hmem).2.2.2;obtain⟨j,j1,j2⟩:=(cn x (l.getD u default).frm.toNat (l.getD u default).to.toNat).has s.toNat oma;rw[<-hr]at j1 j2;have es:((s.toNat:Nat):Int)=s:=by omega
 rw[es]at j2;have hb:ff (l.getD u default).rds s=w8 (λj=>decide (s∈((l.getD u default).rds.getD j default).src)) (l.getD u default).rds.length 0:=rfl;rcases zk (λj=>decide (s∈((l.getD u default).rds.getD j default).src)) (l.getD u default).rds.length with⟨i,h3,h4,_,h6⟩|⟨h3,_⟩
 ·rw[<-hb]at h6;have h7:aE (l.getD u default).rds s=ff (l.getD u default).rds s:=by unfold aE;rw[ine oma]
  refine⟨oma,oma,h7,?_⟩;rw[h6,itn];exact of_decide_eq_true h4
 ·exact absurd j2 (of_decide_eq_false (h3 j j1))
theorem DC(x:Co)(l:List Un)(b:List Wd)(s:Int)(h:JN)(hz:yv x)(hu:aM l)(hb:b.length<=1000000)(ht: ∀i,(b.getD i default).text.length<=1000000000)(hn:x.sig.length<=1000000)(hp:kM SG h):
  ACalls Tryz.prog 23 [.agg (coC x),qZ l,jl b,.int .i64 s] h (.tup [.int .i64 (agN x l b s),.int .i64 (agM x l b s),.int .i64 (agE x l b s)]) h:=by
 have c38:=λl'=>pvP x l b (h++l') hz hu oma ht (hp.app l')
 have z1: ∀g,valL g .len [strs x.sig]= .int .i64 x.sig.length:=λ_=>rfl
 have z2: ∀g,okL g .len [strs x.sig]=True:=λ_=>eqt trivial
 have zu:qZ l= .sl l.length λi=>unC (l.getD i default):=rfl
 obtain⟨E,hE⟩:=Qt (agE x l b s)
 have hN:agN x l b s=if E=0 then (cP (agB l b s) l.length:Int) else 0:=by rw[hE];rfl
 have hM:agM x l b s=if E=0 then (l.length:Int) else 0:=by rw[hE];rfl
 rw[hN,hM,<-hE];unfold agE at hE;unfold coC at c38
 by_cases g1:pvE x l b=0
 case neg=>
  rw[ipo g1]at hE;rw[hE,ine g1,ine g1];have k1:(pvE x l b=0)=False:=eqf g1;refine acO J0 ?_;simp (disch:=omega) only[EH,coC,go_sem]
  repeat' first|(refine cA (c38 _) flk ?_;simp (disch:=omega) only[k1,go_sem])|exact tF|fail
 rw[ine (λhc=>hc g1)]at hE;simp only[g1]at c38
 by_cases g2:s<0
 ·have k2:(s<0)=True:=eqt g2;rw[ipo (.inl g2)]at hE;rw[hE,ine (by decide),ine (by decide)];refine acO J0 ?_;simp (disch:=omega) only[EH,coC,go_sem]
  repeat' first|(refine cA (c38 _) flk ?_;simp (disch:=omega) only[z1,z2,k2,go_sem])|exact tF|fail
 have k2:(s<0)=False:=eqf g2
 by_cases g3:(x.sig.length:Int)<=s
 ·have k3:((x.sig.length:Int)<=s)=True:=eqt g3;rw[ipo (.inr g3)]at hE;rw[hE,ine (by decide),ine (by decide)];refine acO J0 ?_;simp (disch:=omega) only[EH,coC,go_sem]
  repeat' first|(refine cA (c38 _) flk ?_;simp (disch:=omega) only[z1,z2,k2,k3,go_sem])|exact tF|fail
 have k3:((x.sig.length:Int)<=s)=False:=eqf g3;rw[ine (λhc=>hc.elim g2 g3)]at hE;rw[hE,ipo rfl,ipo rfl];clear hE hN hM;have hok:=uS g1;have huo:=xX hok.un;have hva:vaE x l=0:=Pn g1;have hln:=hu.n;refine acO J0 ?_;simp (disch:=omega) only[EH,coC,zu,go_sem]
 repeat' first|(refine cA (c38 _) flk ?_;simp (disch:=omega) only[z1,z2,k2,k3,go_sem])
 refine qr (T:=λu:Nat=>qY 73 [(1,qZ l),(2,jl b),(3,.int .i64 s),(4,.op h.length 1 0),(12,.int .i64 (cP (agB l b s) u)),(35,.int .i64 l.length),(36,.int .i64 u)])
  (H:=λ_=>h++ [.mem 1 26 [.str x.sec,strs x.sig,qm x.tok,qn x.col]]) (inv:=λu=>u<=l.length) (m:=λu=>l.length-u) 0 (nzl _) (Wk.temps ?_) ?_
 ·(simp only[zu,cP,go_sem,qg,qc,qb,qf];try exact tT)
 intro u u1 K hK
 by_cases hul:u<l.length
 ·have r1:((u:Int)<l.length)=True:=eqt oma;have r0:(0<=(u:Int))=True:=eqt oma;obtain⟨q1,q2,q3,q4⟩:=VA huo hul (s:=s) oma oma;have hst:cP (agB l b s) (u+1)=cP (agB l b s) u+if agB l b s u=true then 1 else 0:=rfl
  have hag:agB l b s u=decide (((l.getD u default).rds.getD (aE (l.getD u default).rds s).toNat default).words=owG b (u:Int) b.length):=rfl;have c63:=λh=>TE (l.getD u default) s h (hu.rd u) (hu.sr u)
  have c58:=λl'=>rdD x l b u (h++l') hz hu hb (hp.app l') hok.co hva hul
  have hwl:=hu.wd u (aE (l.getD u default).rds s).toNat;have hol:=XC b (u:Int) b.length;rw[q3]at hag hwl;obtain⟨k,hk⟩: ∃k:Nat,ff (l.getD u default).rds s=(k:Int):=⟨(ff (l.getD u default).rds s).toNat,oma⟩
  rw[hk]at q1 q2 q3;simp only[q3]at c63;rw[hk,itn]at hag hwl;obtain⟨W,hW⟩:=Qt (owG b (u:Int) b.length)
  rw[<-hW]at hag hol;simp only[<-hW]at c58;obtain⟨v,hv⟩:=Qt (l.getD u default)
  have ev:=hv.symm;simp only[ev]at c63;rw[ev]at hag hwl q2;have zr:jM v.rds= .sl v.rds.length λi=>rdC (v.rds.getD i default):=rfl
  have r2:((k:Int)<v.rds.length)=True:=eqt oma;have r3:(0<=(k:Int))=True:=eqt oma;obtain⟨r,hr⟩:=Qt (v.rds.getD k default)
  have er:=hr.symm;rw[er]at hag hwl;have c53:=λh=>Nb r.words W h oma oma
  rw[<-hag]at c53;unfold coC at c58;unfold unC at c63;obtain⟨C,hC⟩:=Qt (cP (agB l b s) u)
  rw[<-hC]at hst;have hcl:C<=l.length:=by have:=NJ (agB l b s) u;omega
  cases hA:agB l b s u with
  |true=>
   rw[hA]at hst c53;rw[ipo rfl]at hst;rw[<-hC];simp (disch:=omega) only[zu,unC,r0,r1,ev,go_sem]
   repeat' first|((first|refine cA (c63 _) ?_ ?_|refine cA (c58 _) ?_ ?_|refine cA (c53 _) ?_ ?_);exact flk;simp (disch:=omega) only[r0,r1,ev,zr,rdC,r2,r3,er,go_sem])|with_reducible apply aiA|exact clz|fail
   refine hK _ _ (u+1) hul oma (Wk.temps ?_);rw[hst]
   (simp only[zu,go_sem,qg,qc,qb,qf];try exact tT)
  |false=>
   rw[hA]at hst c53;rw[ine (by simp),Nat.add_zero]at hst;rw[<-hC];simp (disch:=omega) only[zu,unC,r0,r1,ev,go_sem]
   repeat' first|((first|refine cA (c63 _) ?_ ?_|refine cA (c58 _) ?_ ?_|refine cA (c53 _) ?_ ?_);exact flk;simp (disch:=omega) only[r0,r1,ev,zr,rdC,r2,r3,er,go_sem])|with_reducible apply aiA|exact clz|fail
   refine hK _ _ (u+1) hul oma (Wk.temps ?_);rw[hst]
   (simp only[zu,go_sem,qg,qc,qb,qf];try exact tT)
 obtain rfl:u=l.length:=by omega
 have r1:((l.length:Int)<l.length)=False:=eqf oma;simp (disch:=omega) only[zu,r1,go_sem]
 repeat' first|exact tF|fail
theorem gW(x:Co)(s f d:Nat): ∀e,rdG x s f (d+e)=rdG x s f d++rdG x s (f+d) e:=by
 intro e
 induction e with
 |zero=>rw[Nat.add_zero];show _=_++ [];rw[lan]
 |succ e ih=>
  show rdG x s f (d+e)++(clT x (f+(d+e)) s).toList=rdG x s f d++(rdG x s (f+d) e++(clT x (f+d+e) s).toList);rw[ih,List.append_assoc,Nat.add_assoc]
theorem uU{x:Co}{s t f:Nat}: ∀d,(∀i,i<d->clT x (f+i) s=clT x (f+i) t)->rdG x s f d=rdG x t f d:=by
 intro d
 induction d with
 |zero=>intro _;rfl
 |succ d ih=>
  intro h;unfold rdG;rw[ih (λi hi=>h i oma),h d (Nat.lt_succ_self d)]
theorem By{x:Co}(h:CoOk x){s:Nat}(hs:s<x.sig.length):rdG x s 0 x.col.length=(x.tok.getD s []).map Tk.text:=by
 rw[<-wm,<-B5 h hs,List.map_map];rfl
theorem lV(x:Co)(s f t:Nat):(rwC x s f t).map rwT=rdG x s f (t-f):=by unfold rwC;rw[yI,wm]
def XS(x:Co)(l:List Un)(d:List Dc)(s a:Nat):Prop:= ∀k,k<l.length->(rwU x l d s k).map rwT=rdG x a (frN l k) (toN l k-frN l k)
theorem W3{x:Co}{l:List Un}(h:vr x l=true)(hc:cvA x l=true)(ho:CoOk x){s a:Nat}(hs:s<x.sig.length)(ha:a<x.sig.length){k t:Nat}(hk:k<=l.length)(ht:t<=x.col.length)(hf:k<l.length->t<=frN l k):
  rdG x s (zf l k) (t-zf l k)=rdG x a (zf l k) (t-zf l k):=by
 refine uU _ λi hi=> ?_
 have hn:=tq h hk (c:=zf l k+i) (Nat.le_add_right _ _) (λhk=>by have:=hf hk;omega);obtain⟨_,e1,_⟩:=dQ hc ho hs (c:=zf l k+i) oma oma;obtain⟨_,e2,_⟩:=dQ hc ho ha (c:=zf l k+i) oma oma;rw[e1,e2]
theorem lv{x:Co}{l:List Un}{d:List Dc}{s a:Nat}(h:vr x l=true)(hc:cvA x l=true)(ho:CoOk x)(hs:s<x.sig.length)(ha:a<x.sig.length)(hF:XS x l d s a):(rwA x l d s).map rwT=(x.tok.getD a []).map Tk.text:=by
 have key: ∀k,k<=l.length->(rwL x l d s k).map rwT=rdG x a 0 (zf l k):=by
  intro k
  induction k with
  |zero=>intro _;rfl
  |succ k ih=>
   intro hk;have hp:=aj h (show k<l.length by omega);obtain⟨_,_,a3,a4,_⟩:=jz h (show k<l.length by omega);show (rwL x l d s k++(rwC x s (zf l k) (frN l k)++rwU x l d s k)).map rwT=_;rw[List.map_append,List.map_append,ih oma,lV,hF k oma,W3 h hc ho hs ha (show k<=l.length by omega) oma (λ_=>nlr _),xj];have g1:=gW x a 0 (zf l k) (frN l k-zf l k);have g2:=gW x a 0 (frN l k) (toN l k-frN l k);rw[Nat.zero_add]at g1 g2;rw[show zf l k+(frN l k-zf l k)=frN l k by omega]at g1;rw[show frN l k+(toN l k-frN l k)=toN l k by omega]at g2;rw[<-List.append_assoc,<-g1,<-g2]
 have hp:=vX h (nlr l.length);unfold rwA;rw[List.map_append,key _ (nlr _),lV,W3 h hc ho hs ha (nlr _) (nlr _) (λe=>absurd e (Nat.lt_irrefl _)),<-By ho ha];have g1:=gW x a 0 (zf l l.length) (x.col.length-zf l l.length);rw[Nat.zero_add,show zf l l.length+(x.col.length-zf l l.length)=x.col.length by omega]at g1;rw[g1]
theorem Ae{x:Co}{l:List Un}{d:List Dc}{s a:Nat}(h:vr x l=true)(hc:cvA x l=true)(ho:CoOk x)(hs:s<x.sig.length)(ha:a<x.sig.length)(hF:XS x l d s a):(rwA x l d s).length<=1024:=by
 have e:=congrArg List.length (lv h hc ho hs ha hF);rw[List.length_map,List.length_map]at e;rw[e];exact ho.tl a (by rw[ho.tn];exact ha)
theorem H2{x:Co}{l:List Un}{d:List Dc}{s a:Nat}(h:wt x l d s)(ha:a<x.sig.length)(hF:XS x l d s a){i:Nat}(hi:i<(rwA x l d s).length):(a:Int)∈soK x l (bsW (rwA x l d s)) i:=by
 refine (Ln h hi ha).2 ?_;rcases Ql (zI (a:=default) hi)with⟨u1,_⟩|⟨k,hk,hr⟩
 ·exact .inl oma
 ·exact .inr ⟨k,hk,(XJ hr).1,hF k hk⟩
theorem Dz{x:Co}{l:List Un}{d:List Dc}{s a:Nat}(h:wt x l d s)(ha:a<x.sig.length){k:Nat}(hk:k<l.length):agB l (bsW (rwA x l d s)) a k=decide (rdG x a (frN l k) (toN l k-frN l k)=(rwU x l d s k).map rwT):=by
 obtain⟨j,h1,h2,h3,_⟩:=IR h.us hk ha;have hR:aE (l.getD k default).rds (a:Int)=j:=by unfold aE;rw[h1,ine oma]
 unfold agB;rw[hR,itn,h3,XD h hk]
theorem NI{p:Nat->Bool}: ∀ {n:Nat},(∀i,i<n->p i=true)->cP p n=n:=by
 intro n
 induction n with
 |zero=>intro _;rfl
 |succ n ih=>
  intro h;unfold cP;rw[ih λi hi=>h i oma,h n (Nat.lt_succ_self n)];rfl
theorem HZ{x:Co}{l:List Un}{d:List Dc}{s a:Nat}(h:wt x l d s)(ha:a<x.sig.length)(hF:XS x l d s a):cP (agB l (bsW (rwA x l d s)) a) l.length=l.length:=
 NI λk hk=>by rw[Dz h ha hk,hF k hk];exact dqt rfl
theorem Af{x:Co}{l:List Un}{s:Nat}:XS x l [] s s:=λk _=>by rw[VT,ipo (by show (-1:Int)<0;omega)]
theorem BX{x:Co}(h:coE x=0){s:Nat}(hs:s<x.sig.length):x.sig.getD s []≠ []∧ ∀j,j<s->x.sig.getD j []≠x.sig.getD s []:=by
 have h1:srE x=0:=by
  unfold coE at h;split at h
  ·rename_i e;exact absurd h e
  ·rename_i e;exact Classical.not_not.1 e
 have h2:we (jB x.sig) 0 x.sig.length=0:=by
  unfold srE at h1;split at h1
  ·cases h1
  split at h1
  ·cases h1
  split at h1
  ·cases h1
  split at h1
  ·rename_i e;exact absurd h1 e
  ·rename_i e;exact Classical.not_not.1 e
 have h3:=jr.1 h2 s hs;unfold jB at h3;split at h3
 ·cases h3
 rename_i g;split at h3
 ·cases h3
 rename_i g2;refine⟨λe=>g (by rw[e];decide),λj hj e=> ?_⟩;have g2:jm (λj=>decide (x.sig.getD s []=x.sig.getD j [])) s=false:=by simpa using g2
 exact of_decide_eq_false (qq.1 g2 j hj) e.symm
theorem FH(col:List (List Int))(s k:Nat): ∀d,cnC col s k<=cnC col s (k+d):=by
 intro d
 induction d with
 |zero=>exact nlr _
 |succ d ih=>exact Nat.le_trans ih (Nat.le_add_right _ _)
theorem FK{x:Co}(ho:CoOk x){s c:Nat}(hs:s<x.sig.length)(hc:c<x.col.length)(hp:pcB x s c=true):kZ x s ((x.col.getD c []).getD s 0)=c:=by
 unfold pcB at hp;have hp:=of_decide_eq_true hp;refine kQ (p:=λk=>decide ((x.col.getD k []).getD s 0=(x.col.getD c []).getD s 0)) hc (λk hk=>dqf λe=> ?_) (dqt rfl);have h1:=ho.ce k oma s hs;have h2:=ho.ce c hc s hs;have h3:=FH x.col s (k+1) (c-(k+1));rw[show k+1+(c-(k+1))=c by omega]at h3;have h4:cnC x.col s (k+1)=cnC x.col s k+if (x.col.getD k []).getD s 0= -1 then 0 else 1:=rfl
 rw[ine oma]at h4;omega
theorem FO{x:Co}{l:List Un}(hx:coE x=0)(h:vr x l=true){k s c:Nat}(hk:k<l.length)(hs:s<x.sig.length)(h1:frN l k<=c)(h2:c<toN l k)(hp:pcB x s c=true){o:Dc}(hkd:o.kind=1∨o.kind=3)(ht:o.txt= [])(hg:o.sig=x.sig.getD s [])(hn:o.tok=(x.col.getD c []).getD s 0):
  ai x l o=0∧vk x l o=k∧zJ x o.sig=s:=by
 obtain⟨_,_,_,a4,_⟩:=jz h hk;have ho:=j6 hx;have e1:zJ x o.sig=s:=by rw[hg];exact V7 hs (BX hx hs).2
 have e2:=FK ho hs (show c<x.col.length by omega) hp;obtain⟨_,p2⟩:=ux ho hs (show c<x.col.length by omega) hp;unfold pcB at hp;have hp:=of_decide_eq_true hp;have e3:vk x l o=k:=by
  unfold vk;rw[e1,itn,hn,e2];exact J6 h hk h1 h2
 refine⟨?_,e3,e1⟩;unfold ai;rw[ine oma,ine (λe=>e.1 ht),ine,ine oma]
 ·unfold cjE;rw[ine oma]
 ·unfold tkB;rw[e1,itn,hn,dqt (show (0:Int)<=(s:Int) by omega),dqt hp,dqt (show (x.col.getD c []).getD s 0<((x.tok.getD s []).length:Int) by omega)];simp
structure FoI (x:Co) (a:Nat) (V:Nat->Nat->Prop) (o:Fo):Prop where
 k1:o.k=1-> ∃c,V c a∧pcB x a c=true∧o.g=x.sig.getD a []∧o.t=(x.col.getD c []).getD a 0
 k3:o.k≠1->o.k=3∧(∀c,V c a->pcB x a c=false)∧(o.g= []-> ∀c s,V c s->pcB x s c=false)∧(o.g≠ []-> ∃c s,V c s∧s<x.sig.length∧pcB x s c=true∧o.g=x.sig.getD s []∧o.t=(x.col.getD c []).getD s 0)
theorem OH{x:Co}{a c s:Nat}{V V':Nat->Nat->Prop}{o:Fo}(hx:coE x=0)(ha:a<x.sig.length)(hs:s<x.sig.length)(hV: ∀c' s',V' c' s'↔V c' s'∨(c'=c∧s'=s))(I:FoI x a V o):FoI x a V' (foS x a c o s):=by
 have na:=(BX hx ha).1;have ns:=(BX hx hs).1;have up: ∀c' s',V c' s'->V' c' s':=λc' s' h=>(hV c' s').2 (.inl h)
 unfold foS;split
 ·rename_i g;have hp:pcB x s c=false:=by unfold pcB;exact dqf oma
  refine⟨λe=> ?_,λe=> ?_⟩
  ·obtain⟨c',h1,h2⟩:=I.k1 e;exact⟨c',up _ _ h1,h2⟩
  ·obtain⟨h1,h2,h3,h4⟩:=I.k3 e;refine⟨h1,λc' hc=> ?_,λe c' s' hc=> ?_,λe=> ?_⟩
   ·rcases (hV _ _).1 hc with hc|⟨rfl,rfl⟩
    ·exact h2 c' hc
    ·exact hp
   ·rcases (hV _ _).1 hc with hc|⟨rfl,rfl⟩
    ·exact h3 e c' s' hc
    ·exact hp
   ·obtain⟨c',s',q1,q2⟩:=h4 e;exact⟨c',s',up _ _ q1,q2⟩
 rename_i g;have hp:pcB x s c=true:=by unfold pcB;exact dqt oma
 have me:V' c s:=(hV c s).2 (.inr ⟨rfl,rfl⟩);split
 ·rename_i e;subst e;exact⟨λ_=>⟨c,me,hp,rfl,rfl⟩,λe=>absurd rfl e⟩
 rename_i g2;split
 ·rename_i g3;refine⟨λe=> ?_,λe=> ?_⟩
  ·obtain⟨c',_,_,h3,_⟩:=I.k1 e;exact absurd (h3.symm.trans g3) na
  ·obtain⟨h1,h2,h3,h4⟩:=I.k3 e;refine⟨h1,λc' hc=> ?_,λe=>absurd e ns,λ_=>⟨c,s,me,hs,hp,rfl,rfl⟩⟩;rcases (hV _ _).1 hc with hc|⟨_,e⟩
   ·exact h2 c' hc
   ·exact absurd e.symm g2
 ·rename_i g3;refine⟨λe=> ?_,λe=> ?_⟩
  ·obtain⟨c',h1,h2⟩:=I.k1 e;exact⟨c',up _ _ h1,h2⟩
  ·obtain⟨h1,h2,h3,h4⟩:=I.k3 e;refine⟨h1,λc' hc=> ?_,λe=>absurd e g3,λe=> ?_⟩
   ·rcases (hV _ _).1 hc with hc|⟨_,e⟩
    ·exact h2 c' hc
    ·exact absurd e.symm g2
   ·obtain⟨c',s',q1,q2⟩:=h4 e;exact⟨c',s',up _ _ q1,q2⟩
theorem FoI.iff{x:Co}{a:Nat}{V V':Nat->Nat->Prop}{o:Fo}(I:FoI x a V o)(hV: ∀c s,s<x.sig.length->(V' c s↔V c s))(ha:a<x.sig.length)(hW: ∀c s,V' c s->s<x.sig.length):FoI x a V' o:=by
 refine⟨λe=> ?_,λe=> ?_⟩
 ·obtain⟨c,h1,h2⟩:=I.k1 e;exact⟨c,(hV c a ha).2 h1,h2⟩
 ·obtain⟨h1,h2,h3,h4⟩:=I.k3 e;refine⟨h1,λc hc=>h2 c ((hV c a ha).1 hc),λe c s hc=>h3 e c s ((hV c s (hW c s hc)).1 hc),λe=> ?_⟩;obtain⟨c,s,q1,q2,q3⟩:=h4 e;exact⟨c,s,(hV c s q2).2 q1,q2,q3⟩
theorem OG{x:Co}{a c:Nat}{V:Nat->Nat->Prop}{o:Fo}(hx:coE x=0)(ha:a<x.sig.length)(I:FoI x a V o): ∀m,m<=x.sig.length->FoI x a (λc' s'=>V c' s'∨(c'=c∧s'<m)) (foR x a c o m):=by
 intro m
 induction m with
 |zero=>
  intro _;refine⟨λe=> ?_,λe=> ?_⟩
  ·obtain⟨c',h1,h2⟩:=I.k1 e;exact⟨c',.inl h1,h2⟩
  ·obtain⟨h1,h2,h3,h4⟩:=I.k3 e;refine⟨h1,λc' hc=>hc.elim (h2 c') (λq=>absurd q.2 (nnz _)),λe c' s' hc=>hc.elim (h3 e c' s') (λq=>absurd q.2 (nnz _)),λe=> ?_⟩;obtain⟨c',s',q1,q2⟩:=h4 e;exact⟨c',s',.inl q1,q2⟩
 |succ m ih=>
  intro hm;refine OH hx ha (show m<x.sig.length by omega) (λc' s'=> ?_) (ih oma);constructor
  ·rintro (h|⟨h1,h2⟩)
   ·exact .inl (.inl h)
   ·by_cases e:s'=m
    ·exact .inr ⟨h1,e⟩
    ·exact .inl (.inr ⟨h1,oma⟩)
  ·rintro ((h|⟨h1,h2⟩)|⟨h1,h2⟩)
   ·exact .inl h
   ·exact .inr ⟨h1,oma⟩
   ·exact .inr ⟨h1,oma⟩
theorem OF{x:Co}{a f:Nat}(hx:coE x=0)(ha:a<x.sig.length): ∀d,FoI x a (λc s=>f<=c∧c<f+d∧s<x.sig.length) (foC x a f d):=by
 intro d
 induction d with
 |zero=>
  refine⟨λe=> ?_,λ_=>⟨rfl,λc hc=>by omega,λ_ c s hc=>by omega,λe=>absurd rfl e⟩⟩;have e:(3:Int)=1:=e;omega
 |succ d ih=>
  refine (OG (c:=f+d) hx ha ih x.sig.length (nlr _)).iff (λc s hs=> ?_) ha (λc s h=>h.2.2);constructor
  ·rintro⟨h1,h2,h3⟩
   by_cases e:c=f+d
   ·exact .inr ⟨e,h3⟩
   ·exact .inl ⟨h1,oma,h3⟩
  ·rintro (⟨h1,h2,h3⟩|⟨h1,h2⟩)
   ·exact⟨h1,oma,h3⟩
   ·exact⟨oma,oma,h2⟩
theorem V6{x:Co}{s f:Nat}: ∀d,(∀c,f<=c->c<f+d->pcB x s c=false)->spk x s f d= []:=by
 intro d
 induction d with
 |zero=>intro _;rfl
 |succ d ih=>
  intro h;unfold spk;rw[ih (λc h1 h2=>h c h1 oma),h (f+d) oma oma];rfl
theorem tz{x:Co}{l:List Un}(hx:coE x=0)(h:vr x l=true){k a:Nat}(hk:k<l.length)(ha:a<x.sig.length):
  ai x l (foU x a (l.getD k default))=0∧vk x l (foU x a (l.getD k default))=k∧(gV x l k (foU x a (l.getD k default))).map (λp=>p.t.text)=rdG x a (frN l k) (toN l k-frN l k):=by
 obtain⟨_,_,a3,a4,_⟩:=jz h hk;have ho:=j6 hx;have I:=OF (f:=frN l k) hx ha (toN l k-frN l k);have e:foU x a (l.getD k default)=foD (foC x a (frN l k) (toN l k-frN l k)):=rfl;rw[e];obtain⟨o,hoo⟩:=Qt (foC x a (frN l k) (toN l k-frN l k))
 rw[<-hoo]at I ⊢
 by_cases g:o.k=1
 ·obtain⟨c,⟨c1,c2,_⟩,c3,c4,c5⟩:=I.k1 g;obtain⟨q1,q2,q3⟩:=FO hx h hk ha c1 oma c3 (o:=foD o) (.inl g) rfl c4 c5;refine⟨q1,q2,?_⟩;unfold gV;rw[ipo (show (foD o).kind=1 from g),q3,itn,wm]
 ·obtain⟨h1,h2,h3,h4⟩:=I.k3 g;have hg:o.g≠ []:=λe=>by
   obtain⟨s,hs,hn⟩:=ho.cs (frN l k) oma;have h5:=h3 e (frN l k) s ⟨nlr _,oma,hs⟩;unfold pcB at h5;have h5:=of_decide_eq_false h5;rcases ho.ce (frN l k) oma s hs with q|⟨q,_⟩
   ·exact hn q
   ·omega
  obtain⟨c,s,⟨c1,c2,_⟩,hs,c3,c4,c5⟩:=h4 hg;obtain⟨q1,q2,q3⟩:=FO hx h hk hs c1 oma c3 (o:=foD o) (.inr h1) rfl c4 c5;refine⟨q1,q2,?_⟩;unfold gV;rw[ine (show¬(foD o).kind=1 from g),ine (show¬(foD o).kind=2 by show¬o.k=2;omega),<-wm,V6 _ (λc h5 h6=>h2 c ⟨h5,h6,ha⟩)]
theorem tr(x:Co){l:List Un}(a:Nat){k:Nat}(hk:k<l.length):(foL x l a).getD k default=foU x a (l.getD k default):=by
 unfold foL;rw[gdqA,List.getElem?_map,zg hk,gdqA,zg hk];rfl
theorem It{x:Co}{l:List Un}(hx:coE x=0)(h:vr x l=true){k a:Nat}(ha:a<x.sig.length): ∀n,n<=l.length->wl x l (foL x l a) k n=if k<n then (k:Int) else-1:=by
 intro n
 induction n with
 |zero=>intro _;rfl
 |succ n ih=>
  intro hn;unfold wl;rw[tr x a (show n<l.length by omega),(tz hx h (show n<l.length by omega) ha).2.1,ih oma]
  by_cases e:n=k
  ·subst e;rw[ipo rfl,ipo oma]
  ·rw[ine oma]
   by_cases q:k<n
   ·rw[ipo q,ipo oma]
   ·rw[ine q,ine oma]
theorem Xo{x:Co}{l:List Un}(hx:coE x=0)(h:vr x l=true){a s:Nat}(ha:a<x.sig.length):XS x l (foL x l a) s a:=by
 intro k hk;have hl:(foL x l a).length=l.length:=by unfold foL;rw[List.length_map]
 have e:=It hx h (k:=k) ha l.length (nlr _);rw[ipo hk]at e;unfold rwU;rw[hl,e,ine oma,itn,tr x a hk,yI];exact (tz hx h hk ha).2.2
theorem OI{x:Co}{l:List Un}(hv:vaE x l=0)(hl:l.length<=256){a s:Nat}(ha:a<x.sig.length)(hs:s<x.sig.length):wt x l (foL x l a) s:=by
 obtain⟨h1,h2,h3⟩:=bD hv;have hL:(foL x l a).length=l.length:=by unfold foL;rw[List.length_map]
 refine⟨h1,h2,h3,hs,oma,λj hj=> ?_,Ae h2 h3 (j6 h1) hs ha (Xo h1 h2 ha)⟩;rw[tr x a oma];exact (tz h1 h2 oma ha).1
theorem wt.esE{x:Co}{l:List Un}{d:List Dc}{s:Nat}(h:wt x l d s):esE x l d s=0:=by
 have h1:vaE x l=0:=by
  unfold vaE;rw[ine (λhc=>hc h.ca),ine];unfold rgB;rw[h.us,h.cv];simp
 have h2:yo x l d=0:=by
  unfold yo;rw[ine (by have:=h.dl;omega)];exact jr.2 h.pl
 have:=h.sl
 have:=h.ln
 unfold RC.esE;rw[h1,h2,ine (by simp),ine oma,ine (by simp),ine (by rw[itn];omega)]
end RC
end
section
open Go Go.Proofs AF
def zM:List Nat:= []
def ES:C:=
 (pk [⟨some 2,none,.alloc 0 28 [i6 0],[]⟩] (pk [⟨some 3,none,.alloc 1 3 [i6 0],[]⟩,⟨none,none,.store 1,[.t 3,.c (i6 4096)]⟩] (pk [O1 8 (.mkfn (Fn.func 337) 0) 3,⟨some
 4,none,.alloc 2 30 [.nilfn],[]⟩,ST 1 4 8] ((pk [MV 9 0,O1 10 (.call 338 true) 9] (C.block 0 (C.range (.t 10) [11] (rv [⟨some 5,none,.alloc 3 386 [i6 0,.str [],i6 0,.nl,i6
 0,.bool false],[]⟩,ST 6 5 11]) (C.block 1 (pk [LD 12 4,O1 13 .callv 12,O1 14 (.un UnOp.not) 13,MV 15 14,tv 16 15 4 5,tE 17 15 16,ph 18 15 (.bin .geq) 17 (i6 16),pc 19 15 18,P1
 20 19 true (.fldA 0) 5,P1 21 19 true (.fldA 3) 20,P1 22 19 true (.load none) 21,P1 23 19 true .len 22,PC 24 19 true (.bin .gtr) 23 (i6 0),QF 25 15 false 19 24,PT 26 15 25] (p7
 26 (p9 [⟨none,none,.store 1,[.t 2,.c (i6 4)]⟩]))))))).seq ((pk [MV 27 0,O1 28 (.call 338 true) 27] (C.block 2 (C.range (.t 28) [29] (rv [⟨some 6,none,.alloc 4 386 [i6 0,.str
 [],i6 0,.nl,i6 0,.bool false],[]⟩,ST 6 6 29]) (C.block 3 (pk [O1 30 (.load (some 6)) 6,O1 31 (.call 339 true) 30,MV 7 31] (pk [MV 32 7,oT 33 .neq 32 0] (p7 33 (p9 [MV 34 7,ST 1
 2 34])))))))).seq ((pk [MV 35 0,O1 36 (.call 340 true) 35,O1 37 .slen 36,oT 38 .gtr 37 65536] (p7 38 (p9 [⟨none,none,.store 1,[.t 2,.c (i6 4)]⟩]))).seq (p9 [⟨none,none,.store
 1,[.t 2,.c (i6 0)]⟩])))))))
theorem Hf:qK Tryz.prog 283 39 5 [RV.cell 2 none] ES:=fi Tryz.f283 [2,3,4,5,6] zM []
def E1:C:=
 (pk [MC 1 (.bool false)] (pk [LD 2 0,oT 3 .sub 2 1,ST 1 0 3] (p9 [LD 4 0,oT 5 .geq 4 0,MV 1 5])))
theorem Hr:qK Tryz.prog 337 6 0 [RV.tmp 1] E1:=fi Tryz.f337 [] zM []
def E2:C:=
 (pk [O1 1 (.box 0 232) 0,MC 2 .nilfn] (p9 [O1 3 (.mkfn (Fn.func 372) 0) 1,MV 2 3]))
theorem Ht:qK Tryz.prog 338 4 1 [RV.tmp 2] E2:=fi Tryz.f338 [1] zM []
def Fa:C:=
 (pk [O1 2 (.box 0 411) 0] (pk [⟨some 3,none,.alloc 1 412 [.nilfn],[]⟩] (pk [O2 4 (.mkfn (Fn.func 373) 0) 2 3,ST 1 3 4] (rv [LD 5 3,LD 6 1,ON 7 .callv [.t 5,.t 6,.c (i6 0)]]))))
theorem HC:qK Tryz.prog 372 8 2 [] Fa:=fi Tryz.f372 [2,3] zM []
def Yu:C:=
 (pk [MC 6 (.bool false)] (pk [MC 7 (.bool false)] ((pk [MV 10 0,O1 11 .len 10,oF 12 0] (C.block 0 (pk [BI 13 .lss 12 11] ((p8 13 0).seq ((C.block 1 (pk [O2 14 (.idxA 4) 10 12,O1
 15 (.load (some 4)) 14,⟨some 9,none,.alloc 0 234 [i6 0,.str [],i6 0,.nl],[]⟩,ST 4 9 15] ((pk [LD 16 2,O1 17 (.load (some 4)) 9,MV 18 1,MV 19 7,⟨some 20,none,.build [i6 0,.str
 [],i6 0,.nl,i6 0,.bool false] [(0,4),(4,1),(5,1)],[.t 17,.t 18,.t 19]⟩,O2 21 .callv 16 20,O1 22 (.un UnOp.not) 21,MV 23 22,pc 24 23 1,ph 25 23 (.bin .leq) 24 (i6 16),pc 26 23
 25,P1 27 26 true (.load none) 3,P1 28 26 true (.fldA 3) 9,P1 29 26 true (.load none) 28,MG 30 26 true 1,PC 31 26 true (.bin .add) 30 (i6 1),PN 32 26 true .callv [.t 27,.t 29,.t
 31],P1 33 26 true (.un UnOp.not) 32,QF 34 23 false 26 33,PT 35 23 34] (p7 35 (p9 [MC 6 (.bool false)]))).seq (rv [oE 36 0 9,LD 37 36,oT 38 .eql 37 1,MV 7 38])))).seq (rv [oT 39
 .add 12 1,MV 12 39])))).loop)).seq (p9 [MC 6 (.bool true)]))))
theorem Xm:qK Tryz.prog 373 40 1 [RV.tmp 6] Yu:=fi Tryz.f373 [9] zM []
def E3:C:=
 (pk [O1 1 (.box 0 386) 0,oF 2 0] (pk [oE 6 0 1,O1 7 (.load (some 4)) 6,⟨some 3,none,.alloc 1 234 [i6 0,.str [],i6 0,.nl],[]⟩,ST 4 3 7] ((pk [oE 8 0 3,LD 9 8,oT 10 .lss 9 1,MV 11
 10,tv 12 11 0 3,tE 13 11 12,ph 14 11 (.bin .gtr) 13 (i6 11),PT 15 11 14] (p7 15 (p9 [oF 2 8]))).seq (pk [oE 16 0 3,LD 17 16,O1 18 (.gix 4 12 4) 17,O1 19 (.load (some 4))
 18,⟨some 4,none,.alloc 2 414 [.str [],.bool false,.bool false,.bool false],[]⟩,ST 4 4 19] (pk [oE 20 0 3,LD 21 20,oT 22 .eql 21 6,MV 5 22] ((C.block 0 (pk [oE 24 1 4,LD 25
 24,O1 26 (.un UnOp.not) 25,MV 27 26,P1 28 27 true (.fldA 1) 3,P1 29 27 true (.load none) 28,PC 30 27 true (.bin .neq) 29 (.str []),PF 31 27 30,MV 32 31,tv 33 32 2 4,tE 34 32
 33,oX 35 32 (.un UnOp.not) 34,pc 36 32 35,P1 37 36 true (.fldA 2) 3,P1 38 36 true (.load none) 37,PC 39 36 true (.bin .neq) 38 (i6 0),QF 40 32 false 36 39,PT 41 32 40,MV 42
 41,tv 43 42 3 4,tE 44 42 43,oX 45 42 (.un UnOp.not) 44,pc 46 42 45,P1 47 46 true (.fldA 3) 3,P1 48 46 true (.load none) 47,P1 49 46 true .len 48,PC 50 46 true (.bin .gtr) 49
 (i6 0),QF 51 42 false 46 50,PT 52 42 51,MV 23 52] (C.cond (.t 23) (p9 [oF 2 8]) (pk [oE 54 0 3,LD 55 54,oT 56 .eql 55 1,MV 57 56,P1 58 57 true (.fldA 1) 3,P1 59 57 true (.load
 none) 58,PC 60 57 true (.bin .eql) 59 (.str []),PF 61 57 60,MV 62 61,tv 63 62 3 4,tE 64 62 63,pc 65 62 64,P1 66 65 true (.fldA 3) 3,P1 67 65 true (.load none) 66,P1 68 65 true
 .len 67,PC 69 65 true (.bin .eql) 68 (i6 0),QF 70 62 false 65 69,PT 71 62 70,MV 53 71] (C.cond (.t 53) (p9 [oF 2 5]) (pk [oE 73 0 3,LD 74 73,oT 75 .eql 74 1,MV 76 75,P1 77 76
 true (.fldA 1) 3,P1 78 76 true (.load none) 77,P1 79 76 true (.call 219 true) 78,PC 80 76 true (.bin .neq) 79 (i6 0),PF 81 76 80,MV 72 81] (C.cond (.t 72) (p9 [oF 2 11]) ((pk
 [oE 83 0 3,LD 84 83,oT 85 .eql 84 10,MV 86 85,P1 87 86 true (.fldA 1) 3,P1 88 86 true (.load none) 87,P1 89 86 true (.call 145 true) 88,P1 90 86 true (.un UnOp.not) 89,PF 91 86
 90,MV 82 91] (C.cond (.t 82) C.skip (rv [oE 92 1 4,LD 93 92,MV 94 93,P1 95 94 true (.fldA 0) 3,P1 96 94 true (.load none) 95,PC 97 94 true (.bin .neq) 96 (i6 1),PF 98 94 97,MV
 99 98,P1 100 99 true (.fldA 0) 3,P1 101 99 true (.load none) 100,PC 102 99 true (.bin .neq) 101 (i6 10),PF 103 99 102,MV 104 103,P1 105 104 true (.fldA 1) 3,P1 106 104 true
 (.load none) 105,P1 107 104 true (.call 181 true) 106,P1 108 104 true (.un UnOp.not) 107,PF 109 104 108,MV 82 109]))).seq (C.cond (.t 82) (p9 [oF 2 14]) ((pk [oE 111 2 4,LD 112
 111,MV 113 112,P1 114 113 true (.fldA 2) 3,P1 115 113 true (.load none) 114,PC 116 113 true (.bin .lss) 115 (i6 1),PF 117 113 116,MV 110 117] (C.cond (.t 110) C.skip (pk [MV
 118 5,MV 119 118,P1 120 119 true (.fldA 2) 3,P1 121 119 true (.load none) 120,PC 122 119 true (.bin .gtr) 121 (i6 64),PF 123 119 122,MV 110 123] (C.cond (.t 110) C.skip (rv [oE
 124 2 4,LD 125 124,MV 126 125,MG 127 126 true 5,P1 128 126 true (.un UnOp.not) 127,PF 129 126 128,MV 130 129,P1 131 130 true (.fldA 2) 3,P1 132 130 true (.load none) 131,PC 133
 130 true (.bin .gtr) 132 (i6 8),PF 134 130 133,MV 110 134]))))).seq (C.cond (.t 110) (p9 [oF 2 2]) (pk [oE 136 0 3,LD 137 136,oT 138 .eql 137 1,MV 139 138,P1 140 139 true
 (.fldA 5) 1,P1 141 139 true (.load none) 140,PF 142 139 141,MV 135 142] (C.cond (.t 135) (p9 [oF 2 10]) (pk [oE 144 0 3,LD 145 144,oT 146 .eql 145 4,MV 147 146,P1 148 147 true
 (.fldA 4) 1,P1 149 147 true (.load none) 148,PC 150 147 true (.bin .gtr) 149 (i6 0),PF 151 147 150,MV 143 151] (p7 143 (p9 [oF 2 12])))))))))))))))).seq (p9 [oF 2 0])))))))
theorem Hu:qK Tryz.prog 339 152 3 [RV.tmp 2] E3:=fi Tryz.f339 [1,3,4] zM []
def EU:C:=
 (pk [O1 3 (.box 0 3) 1,oF 4 0,oF 5 0] ((pk [MV 8 0,O1 9 (.call 283 true) 8,oT 10 .neq 9 0] (p7 10 (p9 [oF 4 0,oF 5 1]))).seq ((pk [LD 11 3,oT 12 .lss 11 1,MV 13 12,tE 14 13 3,ph
 15 13 (.bin .gtr) 14 (i6 11),PT 16 13 15] (p7 16 (p9 [oF 4 0,oF 5 8]))).seq (pk [⟨some 6,none,.alloc 1 3 [i6 0],[]⟩,⟨none,none,.store 1,[.t 6,.c (i6 0)]⟩] ((pk [MV 17 0,O1 18
 (.call 338 true) 17] (C.block 0 (C.range (.t 18) [19] (rv [⟨some 7,none,.alloc 2 386 [i6 0,.str [],i6 0,.nl,i6 0,.bool false],[]⟩,ST 6 7 19]) (C.block 1 (pk [oE 20 0 7,oE 21 0
 20,LD 22 21,LD 23 3,BI 24 .eql 22 23] (p7 24 (rv [LD 25 6,oT 26 .add 25 1,ST 1 6 26]))))))).seq (p9 [LD 27 6,MV 4 27,oF 5 0]))))))
theorem Hh:qK Tryz.prog 285 28 3 [RV.tmp 4,RV.tmp 5] EU:=fi Tryz.f285 [3,6,7] zM []
def ET:C:=
 (pk [oF 2 0] ((pk [MV 6 0,O1 7 .len 6,oT 8 .gtr 7 64] (p7 8 (p9 [oF 2 4]))).seq ((pk [MV 9 0,O1 10 .len 9,oF 11 0] (C.block 0 (pk [BI 12 .lss 11 10] ((p8 12 0).seq ((C.block 1
 (pk [O2 13 (.idxA 2) 9 11,O1 14 (.load (some 2)) 13,⟨some 4,none,.alloc 0 357 [.str [],.str []],[]⟩,ST 2 4 14] (pk [O1 15 (.load (some 2)) 4,O1 16 (.call 341 true) 15,MV 5 16]
 (pk [MV 17 5,oT 18 .neq 17 0] (p7 18 (p9 [MV 19 5,MV 2 19])))))).seq (rv [oT 20 .add 11 1,MV 11 20])))).loop)).seq (p9 [oF 2 0]))))
theorem Hg:qK Tryz.prog 284 21 1 [RV.tmp 2] ET:=fi Tryz.f284 [4] zM []
def E9:C:=
 (pk [MC 4 (.str []),oF 5 0] (pk [MV 9 0,MV 10 1,O2 11 (.call 378 true) 9 10,MV 8 11,O1 12 (.ext 0) 8,O1 13 (.ext 1) 8,MV 6 12,MV 7 13] ((pk [MV 14 7,oT 15 .neq 14 0] (p7 15 (p9
 [MV 16 7,MC 4 (.str []),MV 5 16]))).seq (p9 [MV 17 6,MV 18 6,O1 19 .len 18,oT 20 .sub 19 1,O2 21 (.idxA 1) 17 20,LD 22 21,MV 4 22,oF 5 0]))))
theorem HB:qK Tryz.prog 348 23 0 [RV.tmp 4,RV.tmp 5] E9:=fi Tryz.f348 [] zM []
def Fg:C:=
 (pk [ON 4 (.nilo 0 1 9) [],oF 5 0] ((pk [MV 7 0,MV 8 1,O2 9 (.call 386 true) 7 8,MV 6 9] (pk [MV 10 6,oT 11 .neq 10 0] (p7 11 (p9 [MV 12 6,ON 4 (.nilo 0 1 9) [],MV 5 12])))).seq
 (p9 [MV 13 0,MV 14 1,O2 15 (.call 387 true) 13 14,O1 16 (.ext 0) 15,O1 17 (.ext 1) 15,MV 4 16,MV 5 17])))
theorem HG:qK Tryz.prog 378 18 1 [RV.tmp 4,RV.tmp 5] Fg:=fi Tryz.f378 [4] zM []
def Fj:C:=
 (pk [ON 4 (.nilo 0 1 9) [],oF 5 0] (pk [MV 9 1,⟨some 10,none,.bslc 1 1 1 9 [.str []] [(0,1)],[.t 9]⟩,MV 6 10] (C.block 0 (C.block 1 (pk [MV 12 0,MV 13 6,MV 14 6,O1 15 .len 14,oT
 16 .sub 15 1,O2 17 (.idxA 1) 13 16,LD 18 17,O2 19 (.call 390 true) 12 18,MV 11 19,O1 20 (.ext 0) 11,O1 21 (.ext 1) 11,MV 7 20,MV 8 21] ((pk [MV 22 8,O1 23 (.un UnOp.not) 22]
 (p7 23 (p9 [MV 24 6,MV 4 24,oF 5 0]))).seq ((pk [MV 25 6,O1 26 .len 25,oT 27 .eql 26 4096] (p7 27 (p9 [ON 4 (.nilo 0 1 9) [],oF 5 4]))).seq (rv [MV 28 6,MV 29 7,⟨some
 30,none,.bslc 2 1 1 9 [.str []] [(0,1)],[.t 29]⟩,O2 31 (.app 3 1 9 16) 28 30,MV 6 31]))))).loop)))
theorem HI:qK Tryz.prog 387 32 4 [RV.tmp 4,RV.tmp 5] Fj:=fi Tryz.f387 [4,10,30,31] zM []
def Fh:C:=
 (pk [oF 4 0] ((C.block 0 (pk [MV 6 0,O1 7 (.call 284 true) 6,oT 8 .neq 7 0,MV 5 8] (C.cond (.t 5) (p9 [oF 4 1]) (pk [MV 10 1,O1 11 .slen 10,oT 12 .gtr 11 64,MV 9 12] (C.cond (.t
 9) (p9 [oF 4 4]) (pk [MV 14 1,O1 15 (.call 376 true) 14,O1 16 (.un UnOp.not) 15,MV 13 16] (p7 13 (p9 [oF 4 11])))))))).seq (p9 [oF 4 0])))
theorem HH:qK Tryz.prog 386 17 0 [RV.tmp 4] Fh:=fi Tryz.f386 [] zM []
def Fe:C:=
 (pk [MC 2 (.bool false)] ((pk [MV 4 0,O1 5 .slen 4,oF 6 0] (C.block 0 (pk [BI 7 .lss 6 5] ((p8 7 0).seq ((C.block 1 (pk [MV 8 6,MV 3 8] (pk [MV 9 0,MV 10 3,O2 11 .sidx 9 10,O1
 12 (.call 220 true) 11] (C.block 2 ((pk [oT 14 .eql 12 1,MV 13 14] (C.cond (.t 13) C.skip (pk [oT 15 .eql 12 2,MV 13 15] (C.cond (.t 13) C.skip (pk [oT 16 .eql 12 3,MV 13 16]
 (C.cond (.t 13) C.skip (rv [oT 17 .eql 12 4,MV 13 17]))))))).seq (C.cond (.t 13) C.skip (p9 [MC 2 (.bool false)]))))))).seq (rv [oT 18 .add 6 1,MV 6 18])))).loop)).seq (p9 [MC
 2 (.bool true)])))
theorem HE:qK Tryz.prog 376 19 0 [RV.tmp 2] Fe:=fi Tryz.f376 [] zM []
def Fp:C:=
 (pk [⟨some 4,none,.alloc 0 9 [.str []],[]⟩,⟨some 5,none,.alloc 1 4 [.bool false],[]⟩] ((pk [MV 7 0,MV 8 1,O2 9 (.call 391 true) 7 8] (C.block 0 (C.range (.t 9) [10] (rv [MV 6
 10]) (C.block 1 (p9 [MV 11 6,ST 1 4 11,⟨none,none,.store 1,[.t 5,.c (.bool true)]⟩]))))).seq (p9 [MV 12 1,ST 1 4 12,⟨none,none,.store 1,[.t 5,.c (.bool false)]⟩])))
theorem HJ:qK Tryz.prog 390 13 2 [RV.cell 4 none,RV.cell 5 none] Fp:=fi Tryz.f390 [4,5] zM []
def Fq:C:=
 (pk [O1 2 (.box 0 296) 0,O1 3 (.box 1 9) 1,MC 4 .nilfn] (p9 [O2 5 (.mkfn (Fn.func 392) 0) 3 2,MV 4 5]))
theorem HK:qK Tryz.prog 391 6 2 [RV.tmp 4] Fq:=fi Tryz.f391 [2,3] zM []
def Ft:C:=
 (pk [LD 9 1,O1 10 .slen 9,oF 11 0] (C.block 0 (pk [BI 12 .lss 11 10] ((p8 12 0).seq ((C.block 1 (pk [MV 13 11,MV 4 13] (pk [LD 14 2,O1 15 .len 14,oF 16 0] (C.block 2 (pk [BI 17
 .lss 16 15] ((p8 17 2).seq ((C.block 3 (pk [O2 18 (.idxA 2) 14 16,O1 19 (.load (some 2)) 18,⟨some 6,none,.alloc 0 357 [.str [],.str []],[]⟩,ST 2 6 19] (pk [LD 21 1,MV 22 4,O2
 23 (.sslc true false) 21 22,oE 24 0 6,LD 25 24,O2 26 (.call 264 true) 23 25,MV 20 26,O1 27 (.ext 0) 20,O1 28 (.ext 1) 20,MV 7 27,MV 8 28] (pk [MV 29 8,MV 30 29,MG 31 30 true
 0,P1 32 30 true (.load none) 1,MG 33 30 true 4,P2 34 30 true (.sslc false true) 32 33,P1 35 30 true (.fldA 1) 6,P1 36 30 true (.load none) 35,P2 37 30 true (.bin .add) 34 36,MG
 38 30 true 7,P2 39 30 true (.bin .add) 37 38,P2 40 30 true .callv 31 39,P1 41 30 true (.un UnOp.not) 40,PF 42 30 41] (p7 42 C.ret))))).seq (rv [oT 43 .add 16 1,MV 16
 43])))).loop)))).seq (rv [oT 44 .add 11 1,MV 11 44])))).loop))
theorem HL:qK Tryz.prog 392 45 1 [] Ft:=fi Tryz.f392 [6] zM []
def EV:C:=
 (pk [O1 2 (.box 0 117) 0,O1 3 (.box 1 232) 1,MC 4 .nilfn] (p9 [O2 5 (.mkfn (Fn.func 342) 0) 2 3,MV 4 5]))
theorem Hi:qK Tryz.prog 286 6 2 [RV.tmp 4] EV:=fi Tryz.f286 [2,3] zM []
def E5:C:=
 (pk [O1 3 (.box 0 389) 0] (pk [O1 6 (.load (some 2)) 1,⟨some 7,none,.build [i6 0,.int .u8 0,i6 0,.str [],i6 0,.bool false,.str []] [(3,2)],[.t 6]⟩,⟨some 4,none,.alloc 1 348 [i6
 0,.int .u8 0,i6 0,.str [],i6 0,.bool false,.str []],[]⟩,ST 7 4 7] (pk [⟨some 5,none,.alloc 2 390 [.nilfn],[]⟩] (pk [ON 8 (.mkfn (Fn.func 343) 0) [.t 4,.t 3,.t 5],ST 1 5 8] (rv
 [LD 9 5,LD 10 2,O2 11 .callv 9 10])))))
theorem Hw:qK Tryz.prog 342 12 3 [] E5:=fi Tryz.f342 [3,4,5] zM []
@[go_sem]def w6:DT:= DT.one ⟨some 22,none,.fldA 2,[.t 1]⟩ (DT.one ⟨none,none,.store 1,[.t 22,.t 20]⟩ DT.nil)
@[go_sem]def w7:DT:= DT.one ⟨some 49,none,.fldA 6,[.t 1]⟩ (DT.one ⟨none,none,.store 1,[.t 49,.t 47]⟩ DT.nil)
def E6:C:=
 (pk [MC 5 (.bool false)] ((pk [MV 11 0,O1 12 .len 11,oF 13 0] (C.block 0 (pk [BI 14 .lss 13 12] ((p8 14 0).seq ((C.block 1 (pk [O2 15 (.idxA 4) 11 13,O1 16 (.load (some 4))
 15,⟨some 7,none,.alloc 0 234 [i6 0,.str [],i6 0,.nl],[]⟩,ST 4 7 16] ((C.draw (DT.one ⟨some 17,none,.fldA 0,[.t 7]⟩ (DT.one ⟨some 18,none,.load none,[.t 17]⟩ (DT.one ⟨some
 21,none,.fldA 0,[.t 1]⟩ ((DT.one ⟨some 19,none,.fldA 2,[.t 7]⟩ ((DT.one ⟨some 20,none,.load none,[.t 19]⟩ (DT.one ⟨none,none,.store 1,[.t 21,.t 18]⟩ w6)).two (DT.one
 ⟨none,none,.store 1,[.t 21,.t 18]⟩ (DT.one ⟨some 20,none,.load none,[.t 19]⟩ w6)))).two (DT.one ⟨none,none,.store 1,[.t 21,.t 18]⟩ (DT.one ⟨some 19,none,.fldA 2,[.t 7]⟩ (DT.one
 ⟨some 20,none,.load none,[.t 19]⟩ w6)))))))).seq (pk [oE 23 0 7,LD 24 23] (C.block 2 (pk [oT 53 .eql 24 2,MV 52 53] (C.cond (.t 52) (rv [oE 54 3 1,oE 55 1 54,LD 56 55,oT 57
 .add 56 1,oE 58 3 1,oE 59 1 58,ST 1 59 57]) (pk [oT 61 .eql 24 3,MV 60 61] (C.cond (.t 60) (rv [oE 62 1 7,LD 63 62,⟨some 64,none,.build [.str [],i6 0] [(0,1)],[.t 63]⟩,oE 65 3
 1,ST 2 65 64]) (pk [oT 67 .eql 24 1,MV 66 67] (C.cond (.t 66) (pk [oE 68 1 7,LD 69 68,O1 70 .slen 69,oF 71 0] (C.block 3 (pk [BI 72 .lss 71 70] ((p8 72 3).seq ((C.block 4 (pk
 [MV 73 71,MV 8 73] (pk [oE 74 1 7,LD 75 74,MV 76 8,O2 77 .sidx 75 76,oE 78 1 1,ST 1 78 77] (pk [LD 79 2,O1 80 (.load (some 7)) 1,O2 81 .callv 79 80,O1 82 (.un UnOp.not) 81] (p7
 82 (p9 [MC 5 (.bool false)])))))).seq (rv [oT 83 .add 71 1,MV 71 83])))).loop)) ((pk [oT 85 .eql 24 6,MV 84 85] (C.cond (.t 84) C.skip (pk [oT 86 .eql 24 5,MV 84 86] (C.cond
 (.t 84) C.skip (rv [oT 87 .eql 24 4,MV 84 87]))))).seq (C.cond (.t 84) (pk [LD 88 2,O1 89 (.load (some 7)) 1,O2 90 .callv 88 89,O1 91 (.un UnOp.not) 90] (p7 91 (p9 [MC 5 (.bool
 false)]))) (pk [O1 25 (.load (some 7)) 1,⟨some 9,none,.alloc 1 348 [i6 0,.int .u8 0,i6 0,.str [],i6 0,.bool false,.str []],[]⟩,ST 7 9 25] (pk [oE 26 5 1,LD 27 26,MV 28 27,tv 29
 28 0 7,tE 30 28 29,ph 31 28 (.bin .eql) 30 (i6 7),PT 32 28 31,oE 33 5 1,ST 1 33 32] ((pk [oE 34 0 7,LD 35 34,oT 36 .eql 35 11] (p7 36 (rv [oE 37 1 7,LD 38 37,oE 39 6 1,ST 1 39
 38]))).seq (pk [LD 40 3,oE 41 3 7,LD 42 41,O2 43 .callv 40 42,MV 10 43] ((C.draw (DT.one ⟨some 44,none,.fldA 5,[.t 9]⟩ (DT.one ⟨some 45,none,.load none,[.t 44]⟩ (DT.one ⟨some
 48,none,.fldA 5,[.t 1]⟩ ((DT.one ⟨some 46,none,.fldA 6,[.t 9]⟩ ((DT.one ⟨some 47,none,.load none,[.t 46]⟩ (DT.one ⟨none,none,.store 1,[.t 48,.t 45]⟩ w7)).two (DT.one
 ⟨none,none,.store 1,[.t 48,.t 45]⟩ (DT.one ⟨some 47,none,.load none,[.t 46]⟩ w7)))).two (DT.one ⟨none,none,.store 1,[.t 48,.t 45]⟩ (DT.one ⟨some 46,none,.fldA 6,[.t 9]⟩ (DT.one
 ⟨some 47,none,.load none,[.t 46]⟩ w7)))))))).seq (pk [MV 50 10,O1 51 (.un UnOp.not) 50] (p7 51 (p9 [MC 5 (.bool false)]))))))))))))))))))))).seq (rv [oT 92 .add 13 1,MV 13
 92])))).loop)).seq (p9 [MC 5 (.bool true)])))
theorem Hy:qK Tryz.prog 343 93 2 [RV.tmp 5] E6:=fi Tryz.f343 [7,9] zM []
def E7:C:=
 (pk [MC 2 .nilp] (p9 [MV 3 0,O1 4 .nilchk 3,oE 5 0 4,LD 6 5,MV 7 0,O1 8 .nilchk 7,oE 9 0 8,LD 10 9,O1 11 .len 10,oT 12 .sub 11 1,O2 13 (.idxA 6) 6 12,MV 2 13]))
theorem Hz:qK Tryz.prog 346 14 0 [RV.tmp 2] E7:=fi Tryz.f346 [] zM []
def Yo:C:=
 (pk [O1 1 (.box 0 119) 0,MC 2 (.bool false)] (p9 [oE 3 0 1,LD 4 3,O1 5 .slen 4,oT 6 .gtr 5 64,MV 2 6]))
theorem Xg:qK Tryz.prog 289 7 1 [RV.tmp 2] Yo:=fi Tryz.f289 [1] zM []
def Rq:C:=
 (pk [ON 2 (.nilo 0 1 9) []] (pk [ON 3 (.nilo 1 1 9) []] ((pk [MV 6 0,O1 7 .len 6,oF 8 0] (C.block 0 (pk [BI 9 .lss 8 7] ((p8 9 0).seq ((C.block 1 (pk [O2 10 (.idxA 6) 6 8,O1 11
 (.load (some 6)) 10,⟨some 5,none,.alloc 2 119 [.str [],.str [],.str [],i6 0,i6 0,.str []],[]⟩,ST 6 5 11] (rv [MV 12 3,oE 13 0 5,LD 14 13,⟨some 15,none,.bslc 3 1 1 9 [.str []]
 [(0,1)],[.t 14]⟩,O2 16 (.app 4 1 9 16) 12 15,MV 3 16]))).seq (rv [oT 17 .add 8 1,MV 8 17])))).loop)).seq (p9 [MV 18 3,MV 2 18]))))
theorem Ox:qK Tryz.prog 64 19 5 [RV.tmp 2] Rq:=fi Tryz.f64 [2,3,5,15,16] zM []
end
section
open Go Go.Proofs AF HY LN
namespace RC
abbrev frmN:Nat:=4
def frmC:JT:= [.str [],.bool false,.bool false,.bool false,.str [],.bool true,.bool false,.bool false,.str [108,98],.bool false,.bool false,.bool false,.str [112,98],.bool true,.bool false,.bool false,
 .str [115,101,99],.bool true,.bool false,.bool false,.str [118],.bool false,.bool false,.bool false,.str [103,97,112],.bool false,.bool true,.bool false,.str [117,110,99,108,101,97,114],.bool false,.bool false,.bool true,
 .str [97,100,100],.bool false,.bool true,.bool true,.str [100,101,108],.bool false,.bool true,.bool true,.str [97,98],.bool true,.bool false,.bool true,.str [110,97,109,101],.bool true,.bool false,.bool true]
def H6:JT:= [.str [],.bool true,.bool false,.bool false]
theorem Xp:(frmC.drop ((1:Int).toNat*4)).take 4=H6:=rfl
def PF(h:JN):Prop:=kM SG h∧jb h frmN frmC
theorem PF.app{h:JN}(hp:PF h)(l:JN):PF (h++l):=⟨hp.1.app l,hp.2.app⟩
def ndC(s:Str):JT:= [.int .i64 1,.str s,.int .i64 0,.nl]
def jZ(s:Str):AV:= .sl 1 λ_=>ndC s
def plC(s:Str):JT:= [.int .i64 1,.str s,.int .i64 0,.nl,.int .i64 0,.bool false]
theorem TL(s:Str)(h:JN)(hs:s≠ [])(hl:s.length<=1000000)(hc:zS s=0)(hg:jb h frmN frmC):ACalls Tryz.prog 339 [.agg (plC s)] h (.int .i64 0) h:=by
 have c1:=λh=>PG s h oma
 rw[hc]at c1;have k1:(s= [])=False:=eqf hs;refine acO Hu ?_;simp (disch:=omega) only[E3,plC,go_sem]
 repeat' first|(apply qa;exact rvk;simp only[go_sem];apply qe)|(with_reducible first|intro _|apply aiA)|exact clz|fail
 refine Xt (cs:=frmC) hg.app ⟨by decide,by decide⟩ rfl ?_;rw[Xp];simp (disch:=omega) only[H6,k1,go_sem]
 repeat' first|(refine qj ( .bool false) ?_;simp (disch:=omega) only[go_sem])|(refine cG (λe=>c1 _) flk ?_;simp (disch:=omega) only[go_sem])|(apply qa;exact rvk;simp only[go_sem];first|exact qi|apply qe)|(with_reducible first|intro _|apply aiA)|exact clz|fail
end RC
end
section
open Go Go.Proofs AF HY LN
namespace AF
mutual
theorem kq{n m:Nat}(h:n<=m): ∀c,qR n c=true->qR m c=true
 | .osl k v z o l,hc=>by simp only[qR,decide_eq_true_eq]at*;omega
 | .op k v o,hc=>by simp only[qR,decide_eq_true_eq]at*;omega
 | .mp k v,hc=>by simp only[qR,decide_eq_true_eq]at*;omega
 | .yld k,hc=>by simp only[qR,decide_eq_true_eq]at*;omega
 | .agg cs,hc=>by simp only[qR]at*;exact vh h cs hc
 | .tup cs,hc=>by simp only[qR]at*;exact vh h cs hc
 | .fn f a b,hc=>by simp only[qR,Bool.and_eq_true]at*;exact⟨vh h a hc.1,vh h b hc.2⟩
 | .gd g v,hc=>by
  cases g with
  |false=>rfl
  |true=>simp only[qR,Bool.not_true,Bool.false_or]at*;exact kq h v hc
 | .undef,_=>rfl
 | .bool _,_=>rfl
 | .int _ _,_=>rfl
 | .str _,_=>rfl
 | .sl _ _,_=>rfl
 | .ip _,_=>rfl
 | .nilp,_=>rfl
 | .nl,_=>rfl
 | .el,_=>rfl
 | .nilfn,_=>rfl
 | .ifc,_=>rfl
 | .nilif,_=>rfl
 | .anyb,_=>rfl
theorem vh{n m:Nat}(h:n<=m): ∀cs,qR.lowVs n cs=true->qR.lowVs m cs=true
 | [],_=>rfl
 |c::r,hc=>by simp only[qR.lowVs,Bool.and_eq_true]at*;exact⟨kq h c hc.1,vh h r hc.2⟩
end
theorem lowO_mono{n m:Nat}(h:n<=m){o:AObj}(ho:lowO n o):lowO m o:=by
 cases o with
 |mem v ty cs=>exact λc hc=>kq h c (ho c hc)
 |emp v=>trivial
 |lp s ts L=>exact λc hc=>kq h c (ho c hc)
 |map v es=>exact λp hp=>kq h p.2 (ho p hp)
 |pin bs G=>trivial
theorem LowI.retX{h hh xs:JN}{ts:JT}{L:LInfo}(s:LS)(hl:LowI h hh)(hts: ∀c∈ts,qR (h.length+1) c=true):
  (hh++ .lp s ts L::xs).length=(h++ .lp .ready ts L::xs).length∧ ∀o∈hh++ .lp s ts L::xs,o∈h++ .lp .ready ts L::xs∨lowO (h++ .lp .ready ts L::xs).length o:=by
 refine⟨by simp[hl.1],λo ho=> ?_⟩;rcases List.mem_append.1 ho with ho|ho
 ·rcases hl.2 o ho with h1|⟨h1,_⟩
  ·exact .inl (List.mem_append_left _ h1)
  ·exact .inr (lowO_mono (by simp) h1)
 ·rcases List.mem_cons.1 ho with rfl|ho
  ·exact .inr (λc hc=>kq (by simp) c (hts c hc))
  ·exact .inl (List.mem_append_right _ (List.mem_cons_of_mem _ ho))
end AF
namespace RC
theorem Ui(d:Int)(a b:AV)(h:JN):ACalls Tryz.prog 373 [.nl,.int .i64 d,a,b] h (.bool true) h:=by
 refine acO Xm ?_;simp (disch:=omega) only[Yu,go_sem];refine qr (T:=λ_:Unit=>qY 40 [(1,.int .i64 d),(2,a),(3,b),(7,.bool false),(10,.nl),(11,.int .i64 0),(12,.int .i64 0)]) (H:=λ_=>h++ [.emp 0]) (inv:=λ_=>True) (m:=λ_=>0) () trivial (Wk.temps ?_) ?_
 ·(simp only[go_sem,qg,qc,qb,qf];try exact tT)
 rintro⟨⟩ _ K hK;simp (disch:=omega) only[go_sem]
 repeat' first|exact tF|(with_reducible first|intro _|apply aiA)|exact clz|fail
def cyl(n:Nat):AObj:= .mem 1 411 [.yld n]
def cwk(n:Nat):AObj:= .mem 1 412 [.fn (.func 373) [] [.op (n+1) 1 0,.op (n+2) 1 0]]
section
variable {n : Nat} {hh m : JN} {st : LS} {ts : JT} {LI : LInfo}
theorem IH(hl:hh.length=n):cellsOf (hh++ .lp st ts LI::cyl n::cwk n::m) (n+1) 1=some [.yld n]:=qJ (show qu _ _=some (cyl n) by subst hl;unfold qu;simp)
theorem II(hl:hh.length=n):cellsOf (hh++ .lp st ts LI::cyl n::cwk n::m) (n+2) 1=some [.fn (.func 373) [] [.op (n+1) 1 0,.op (n+2) 1 0]]:=qJ (show qu _ _=some (cwk n) by subst hl;unfold qu;simp)
end
theorem wlk1(s:Str)(h:JN)(ts:JT)(LI:LInfo)(S:Nat->JN->Prop)(E:LS->JN->Prop)(hS: ∀i hh,S i hh->LowI h hh)(hE: ∀s hh,E s hh->LowI h hh)
  (body: ∀i hh tl,(hi:i< [[AV.agg (plC s)]].length)->S i hh->jQ Tryz.prog h.length ([[AV.agg (plC s)]][i]) (hh++ .lp .ready ts LI::tl) (λr h'=> ∃hh',(r= .bool true∧S (i+1) hh'∧h'=hh'++ .lp .ready ts LI::tl)∨(∃s,r= .bool false∧E s hh'∧h'=hh'++ .lp s ts LI::tl)))
  (start:S 0 h) (hts: ∀c∈ts,qR (h.length+1) c=true):
  z7 Tryz.prog 373 [jZ s,.int .i64 0,.op (h.length+1) 1 0,.op (h.length+2) 1 0] (h++ [.lp .ready ts LI,cyl h.length,cwk h.length])
   (λr h'=> ∃hh',(r= .bool true∧S 1 hh'∧h'=hh'++ [.lp .ready ts LI,cyl h.length,cwk h.length])∨(∃st,r= .bool false∧E st hh'∧h'=hh'++ [.lp st ts LI,cyl h.length,cwk h.length])):=by
 refine acQ Xm ?_;simp (disch:=omega) only[Yu,jZ,ndC,go_sem];refine qr (T:=λi:Nat×JN×AObj=>qY 40 [(1,.int .i64 0),(2,.op (h.length+1) 1 0),(3,.op (h.length+2) 1 0),(7,.bool (decide (i.1=1))),(10,jZ s),(11,.int .i64 ((1:Nat):Int)),(12,.int .i64 i.1)])
  (H:=λi=>i.2.1++ [.lp .ready ts LI,cyl h.length,cwk h.length]++ [i.2.2])
  (inv:=λi=>i.1<=1∧S i.1 i.2.1∧qG [i.2.2] 0=true) (m:=λi=>1-i.1) (0,h,.emp 0) ⟨nzl _,start,rfl⟩ (Wk.temps ?_) ?_
 ·(simp only[jZ,ndC,go_sem,qg,qc,qb,qf];try exact tT)
 rintro⟨i,hh,O⟩ ⟨i1,i2,i3⟩ K hK;simp only at i1 i2 i3 hK;obtain⟨hlen,hlow⟩:=hS _ _ i2;have hb:(h++ [AObj.lp LS.ready ts LI,cyl h.length,cwk h.length]).length=(hh++ [AObj.lp LS.ready ts LI,cyl h.length,cwk h.length]).length:=by simp[hlen]
 rw[hb];have i3': ∀m,qG (O::m) 0=true:=λ_=>i3
 have ea: ∀(g:JN) m,g++ [AObj.lp LS.ready ts LI,cyl h.length,cwk h.length]++m=g++ .lp .ready ts LI::cyl h.length::cwk h.length::m:=λg m=>by simp
 have d1: ∀m,cellsOf (hh++ [AObj.lp LS.ready ts LI,cyl h.length,cwk h.length]++m) (h.length+1) 1=some [.yld h.length]:=λm=>by rw[ea];exact IH hlen
 have d2: ∀m,cellsOf (hh++ [AObj.lp LS.ready ts LI,cyl h.length,cwk h.length]++m) (h.length+2) 1=some [.fn (.func 373) [] [.op (h.length+1) 1 0,.op (h.length+2) 1 0]]:=λm=>by rw[ea];exact II hlen
 by_cases hi:i<1
 ·obtain rfl:i=0:=by omega
  have hb':=λO'=>body 0 hh [cyl h.length,cwk h.length,O'] (by simp) i2
  simp (disch:=omega) only[jZ,ndC,i3',d1,go_sem]
  repeat' first|(with_reducible first|intro _|apply aiA)|exact clz|fail
  ·exact⟨.ready,ts,LI,by rw[ea];exact ko hlen⟩
  ·rw[ea];refine jQ.mono ?_ (hb' _);rintro v h' ⟨hh',⟨rfl,hn,rfl⟩|⟨st,rfl,hs',rfl⟩⟩
   ·have hl':=(hS _ _ hn).1;have hq:(hh++ [AObj.lp LS.ready ts LI,cyl h.length,cwk h.length]).length=(hh'++ [AObj.lp LS.ready ts LI,cyl h.length,cwk h.length]).length:=by simp[hlen,hl']
    rw[<-ea,hq];have e1: ∀m,cellsOf (hh'++ [AObj.lp LS.ready ts LI,cyl h.length,cwk h.length]++m) (h.length+1) 1=some [.yld h.length]:=λm=>by rw[ea];exact IH hl'
    have e2: ∀m,cellsOf (hh'++ [AObj.lp LS.ready ts LI,cyl h.length,cwk h.length]++m) (h.length+2) 1=some [.fn (.func 373) [] [.op (h.length+1) 1 0,.op (h.length+2) 1 0]]:=λm=>by rw[ea];exact II hl'
    simp (disch:=omega) only[e2,go_sem]
    repeat' first|(refine qz (Ui _ _ _ _) ?_;simp (disch:=omega) only[go_sem])|(with_reducible first|intro _|apply aiA)|exact clz|fail
    refine hK _ _ (1,hh',.mem (qo (some O)+1) 234 (ndC s)) ⟨nlr _,hn,rfl⟩ (by simp only;omega) (Wk.temps ?_)
    (simp only[jZ,ndC,go_sem,qg,qc,qb,qf];try exact tT)
   ·simp (disch:=omega) only[go_sem]
    repeat' first|(with_reducible first|intro _|apply aiA)|exact clz|fail
    obtain⟨r1,r2⟩:=(hE _ _ hs').retX (L:=LI) (xs:= [cyl h.length,cwk h.length]) st hts;have eO: ∀O',hh'++ .lp st ts LI::cyl h.length::cwk h.length:: [O']=(hh'++ [.lp st ts LI,cyl h.length,cwk h.length])++ [O']:=λ_=>by simp
    rw[eO];exact kX ⟨trivial,trivial⟩ r1 r2 ⟨hh',.inr ⟨st,rfl,hs',rfl⟩⟩ (qi)
 ·obtain rfl:i=1:=by omega
  simp (disch:=omega) only[jZ,ndC,go_sem]
  repeat' first|(with_reducible first|intro _|apply aiA)|exact clz|fail
  obtain⟨r1,r2⟩:=(hS _ _ i2).retX (L:=LI) (xs:= [cyl h.length,cwk h.length]) .ready hts;exact kX ⟨trivial,trivial⟩ r1 r2 ⟨hh,.inl ⟨rfl,i2,rfl⟩⟩ (qi)
end RC
end
section
namespace Go.Proofs
open Go.Shelf Go.RowKit
set_option maxHeartbeats 1000000 in
set_option maxRecDepth 100000 in
theorem rP(b d:Nat)(w:World)(h0:w.cell? ⟨b,d,none⟩=some (.pointer (some ⟨b,d,none⟩))):
  Calls Tryz.prog 333 #[.pointer (some ⟨b,d,none⟩)] w λe w'=>e= .returned (.tuple #[])∧w'=w:=by
 obtain⟨j,hj,_⟩:=Option.map_eq_some_iff.1 (show (Tryz.prog.info? 333).map (·.size)=some 2 by kernel_rfl)
 go_enter Tryz.func333,Tryz.ntmps333
 go_wp2
 rw[Lib.run_neq_ptr_same w _ Tryz.underlying331 hj]
 go_wp2
 go_end0
 exact⟨rfl,rfl⟩
set_option maxHeartbeats 1000000 in
set_option maxRecDepth 100000 in
theorem iW(b d ty n:Nat)(w:World)(h0:w.cell? ⟨b,d,none⟩=some (.pointer none))(hn:d+2<=n)(hsh:w.shape? b=some (ty,n))(hfz:w.frozen? ⟨b,d,none⟩=false)
  (hl:liesAt Tryz.prog Tryz.prog.depth ty (n/Tryz.prog.cellsOf ty) d 333 1=true):
  Calls Tryz.prog 333 #[.pointer (some ⟨b,d,none⟩)] w λe w'=>e= .returned (.tuple #[])∧w'=w.setCell ⟨b,d,none⟩ (.pointer (some ⟨b,d,none⟩)):=by
 obtain⟨j,hj,hjs⟩:=Option.map_eq_some_iff.1 (show (Tryz.prog.info? 333).map (·.size)=some 2 by kernel_rfl)
 go_enter Tryz.func333,Tryz.ntmps333
 go_wp2
 rw[Lib.run_to_unsafe w ⟨b,d,none⟩ Tryz.underlying331 Tryz.underlying408 hj (by rw[hjs];decide) hsh (show d<n by omega)];simp only[Result.andThen];rw[Oper.upon_value]
 go_wp2
 rw[run_callFunc_extern Tryz.func370 (by kernel_rfl) (by kernel_rfl) (by kernel_rfl) (e:=Extern.AbiNoEscape.same) (by kernel_rfl)];rw[Lib.run_noEscape];simp only[Result.andThen];rw[Oper.upon_value]
 go_wp2
 rw[Lib.run_from_unsafe w ⟨b,d,none⟩ Tryz.underlying408 Tryz.underlying331 hj hsh hl];simp only[Result.andThen];rw[Oper.upon_value]
 go_wp2
 go_end0
 exact⟨rfl,rfl⟩
set_option maxHeartbeats 1000000 in
set_option maxRecDepth 100000 in
theorem mf(b d g cap:Nat)(l:List UInt8)(cur:Array Value)(w:World)(h0:l≠ [])(c0:w.cell? ⟨b,d+1,none⟩=some (.slice (some ⟨g,0,none⟩) l.length cap))(hg:w.heap[g]? =some (.cells cur 5 (0,0)))
  (hnc:l.length<=cap) (hcm:cap<=maxLen) (hcs:cap<=cur.size) (hcell: ∀(j:Nat) x,l[j]? =some x->w.cell? ⟨g,j,none⟩=some (.int .u8 x.toNat)):
  Calls Tryz.prog 278 #[.pointer (some ⟨b,d,none⟩)] w λe w'=>e= .returned (.string ⟨l.toArray⟩)∧w'=w.drew.freeze ⟨g,0,none⟩ l.length:=by
 have hl0:l.length≠0:=by simpa using h0
 have c1:w.drew.cell? ⟨b,d+1,none⟩=some (.slice (some ⟨g,0,none⟩) l.length cap):=c0;have hSD:(Builtin.unsafeSliceData_ #[289] 379 #[.slice (some ⟨g,0,none⟩) l.length cap]).run Tryz.prog w.drew= .ok (.pointer (some ⟨g,0,none⟩)) w.drew:=
  Lib.run_unsafeSliceData_row _ _ _ _ _ _ oma
 have hUS:(Builtin.unsafeString_ #[379,3] 9 #[.pointer (some ⟨g,0,none⟩),.int .i64 l.length]).run Tryz.prog w.drew= .ok (.string ⟨l.toArray⟩) (w.drew.freeze ⟨g,0,none⟩ l.length):=by
  refine Lib.run_unsafeString_row w.drew 379 3 9 5 Tryz.underlying379 (by kernel_rfl) g cur.size (by have hg':w.drew.heap[g]? =some (.cells cur 5 (0,0)):=hg;simp[World.shape?,hg']) l h0 oma (by unfold maxLen at hcm;omega) ?_;intro j x hx
  have:=hcell j x hx
  cases j with
  |zero=>exact this
  |succ j=>
   have e:(⟨g,0,none⟩:Addr).add (j+1)=⟨g,j+1,none⟩:=by
    unfold Addr.add;rw[ine (Nat.succ_ne_zero j)];simp only[Nat.zero_add]
   rw[e];exact this
 have mixed:Tryz.prog.follows .mixedOrders=true:=by kernel_rfl
 go_enter Tryz.func278,Tryz.ntmps278
 go_wp2
 go_region_o
 all_goals (go_wp2;go_ret;exact⟨rfl,rfl⟩)
set_option maxHeartbeats 2000000 in
set_option maxRecDepth 100000 in
theorem md(b d:Nat)(w:World)(c0:w.cell? ⟨b,d+1,none⟩=some (.slice none 0 0)):
  Calls Tryz.prog 278 #[.pointer (some ⟨b,d,none⟩)] w λe w'=>e= .returned (.string ⟨#[]⟩)∧w'=w.drew:=by
 have hUS: ∀(W:World) (q:Option Addr),(Builtin.unsafeString_ #[379,3] 9 #[.pointer q,.int .i64 0]).run Tryz.prog W= .ok (.string .empty) W:=λW q=>Lib.run_unsafeString_none W _ _ _ q
 have c1:w.drew.cell? ⟨b,d+1,none⟩=some (.slice none 0 0):=c0;have hSD:(Builtin.unsafeSliceData_ #[289] 379 #[.slice none 0 0]).run Tryz.prog w.drew= .ok (.pointer none) w.drew:=rfl;have mixed:Tryz.prog.follows .mixedOrders=true:=by kernel_rfl
 go_enter Tryz.func278,Tryz.ntmps278
 go_wp2
 go_region_o
 all_goals (go_wp2;go_ret;exact⟨rfl,rfl⟩)
end Go.Proofs
end
section
open Go Go.Proofs AF
def tJ:List Nat:= [333,277,377,278,347]
def EO:C:=
 (pk [oF 4 0,MC 5 .nilif] (pk [MV 6 0,O1 7 (.call 333 false) 6] (pk [MV 8 0,MV 9 0,O1 10 .nilchk 9,oE 11 1 10,LD 12 11,MV 13 1,O2 14 (.apps 0 5) 12 13,O1 15 .nilchk 8,oE 16 1
 15,ST 1 16 14] (p9 [MV 17 1,O1 18 .slen 17,MV 4 18,MC 5 .nilif]))))
theorem G7:qK Tryz.prog 277 19 1 [RV.tmp 4,RV.tmp 5] EO:=fi Tryz.f277 [14] tJ []
def Ff:C:=
 (pk [MC 4 .nilif] (pk [MV 5 0,O1 6 (.call 333 false) 5] (pk [MV 7 0,MV 8 0,O1 9 .nilchk 8,oE 10 1 9,LD 11 10,MV 12 1,⟨some 13,none,.bslc 0 1 1 5 [.int .u8 0] [(0,1)],[.t 12]⟩,O2
 14 (.app 1 1 5 1) 11 13,O1 15 .nilchk 7,oE 16 1 15,ST 1 16 14] (p9 [MC 4 .nilif]))))
theorem HF:qK Tryz.prog 377 17 2 [RV.tmp 4] Ff:=fi Tryz.f377 [13,14] tJ []
end
section
open Go Go.Proofs AF HY RC LN
namespace HY
def az(v:Nat)(s:List UInt8):AObj:=if s= [] then .emp v else .mem v 5 (zE s)
theorem yx(v:Nat):az v []= .emp v:=rfl
theorem wF{s:List UInt8}(h:s≠ [])(v:Nat):az v s= .mem v 5 (zE s):=ine h
theorem aP(s u:List UInt8):zE (s++u)=zE s++zE u:=by simp[zE]
theorem mF(s:List UInt8)(n:Nat): ∀c∈zE s,qR n c=true:=by
 intro c hc;unfold zE at hc;rw[List.mem_map]at hc;obtain⟨a,_,rfl⟩:=hc;rfl
theorem jc(v:Nat)(s:List UInt8)(n:Nat):lowO n (az v s):=by
 unfold az;split
 ·trivial
 ·exact mF s n
theorem bL{kb kj:Nat}{h:JN}{X Y Z:AObj}(hne:kb≠kj):qt kb (qt kj (qt kb h X) Y) Z=qt kj (qt kb h Z) Y:=by
 rw[ku hne,kv]
theorem Yd(v:Nat)(u:List UInt8):(if u.length=0 then AObj.emp v else AObj.mem v 5 (zE u))=az v u:=by
 unfold az
 by_cases h:u= []
 ·simp[h]
 ·rw[ine h,ine (by simpa using h)]
theorem x8(w:World)(g n:Nat):w.grownBy (w.drew.freeze ⟨g,0,none⟩ n) (some g):=by
 unfold World.freeze;split
 ·exact⟨rfl,rfl,rfl,nlr _,λ_ _ _=>rfl⟩
 ·refine⟨rfl,rfl,rfl,?_,λk hk hne=> ?_⟩
  ·show w.heap.size<=(w.heap.modify g _).size;rw[Array.size_modify];exact nlr _
  ·have:g≠k:=λe=>hne (by rw[e])
   show (w.heap.modify g _)[k]? =w.heap[k]?;rw[Array.getElem?_modify,ine this]
theorem nN{p:Program}{fits:TypeId->Bool}{e:TypeId}{c c' off n:Nat}(hc:c<=c'): ∀d,rowAt p fits d e c off n=true->rowAt p fits d e c' off n=true:=by
 intro d;cases d with
 |zero=>exact id
 |succ d=>
  unfold rowAt;simp only;split
  ·exact id
  ·intro h;rw[Bool.or_eq_true]at h ⊢;rcases h with h|h
   ·refine .inl ?_;simp only[Bool.and_eq_true,decide_eq_true_iff]at h ⊢;exact⟨⟨h.1.1,oma⟩,h.2⟩
   ·refine .inr ?_;rw[Bool.and_eq_true]at h ⊢;exact⟨by simp only[decide_eq_true_iff]at h ⊢;omega,h.2⟩
theorem y9{p:Program}{e u:TypeId}{c c' off n:Nat}(hc:c<=c'): ∀d,liesAt p d e c off u n=true->liesAt p d e c' off u n=true:=by
 intro d
 induction d generalizing u n with
 |zero=>exact id
 |succ d ih=>
  unfold liesAt;intro h;rw[Bool.or_eq_true]at h ⊢;rcases h with h|h
  ·exact .inl (nN hc _ h)
  ·refine .inr ?_;split at h
   ·exact ih h
   ·cases h
theorem OV(n:Nat)(hn:2<=n):liesAt Tryz.prog Tryz.prog.depth 333 (n/Tryz.prog.cellsOf 333) 0 333 1=true:=by
 have e1:Tryz.prog.cellsOf 333=2:=by kernel_rfl
 have h1:liesAt Tryz.prog Tryz.prog.depth 333 1 0 333 1=true:=by kernel_rfl
 rw[e1];exact y9 oma _ h1
theorem ccS(kb vb:Nat)(A B:AV)(h:JN)(hk:qu kb h=some (.mem vb 333 [A,B]))(hA:A= .nilp∨A= .op kb vb 0):ACalls Tryz.prog 333 [.op kb vb 0] h (.tup []) (qt kb h (.mem vb 333 [.op kb vb 0,B])):=by
 refine⟨AZ Tryz.func333 (by kernel_rfl) (by kernel_rfl),λw σ xs H hv=> ?_⟩;obtain⟨x,rfl,hx⟩:=hv.one;have hc:=qJ hk;obtain⟨cs,o,b,arr,g1,rfl,g2,g3,g4,g5,g6,g7,g9,g8⟩:=kr H hx (by rw[hc];rfl);rw[hc]at g1;cases g1;have hobj:=H.obj kb _ o hk g2;obtain⟨_,hty,_⟩:=hobj;rw[hty]at g5;have g5b:=g5;have g5:=g5.plain (by decide);have hsz:2<=arr.size:=g7;have hc0:w.cell? ⟨b,0,none⟩=some arr[0]:=by rw[jV g5b];simp
 have hA0:=g8 0 A arr[0] rfl (by simp);have hsh:w.shape? b=some (333,arr.size):=by simp[World.shape?,g5]
 have hfz:w.frozen? ⟨b,0,none⟩=false:=by simp[World.frozen?,g5]
 have hkl:=zh hk;rcases hA with rfl|rfl
 ·rw[di hA0]at hc0;refine (callsIn_wide.2 (iW b 0 333 arr.size w hc0 oma hsh hfz (OV _ hsz))).mono ?_;rintro e w' ⟨rfl,rfl⟩;have hg:w.grownBy (w.setCell ⟨b,0,none⟩ (.pointer (some ⟨b,0,none⟩))) o.blk:=by rw[g4];exact grownBy_setCell' w b _
  have hh:=heap_setCell_same w b 0 arr 333 (.pointer (some ⟨b,0,none⟩)) g5;obtain⟨u1,u2⟩:=H.update (o':=o) (a':= .mem vb 333 [.op kb vb 0,B]) g2 hg (nlr _) (λ_=>rfl)
   (by intro b' e;rw[g4]at e;cases e;exact⟨.inl g4,(Array.getElem?_eq_some_iff.1 hh).1⟩) (λb' r e hr=>by rw[g4]at e;cases e;rw[g5]at hr;cases hr)
   (λe=>⟨g3,hty,b,_,g4,by rw[hty];exact .mk hh,by simp[g6],by simp;exact hsz,λi y hi hy=>by
    simp only[Array.getElem?_setIfInBounds]at hy;split at hy
    ·split at hy
     ·cases hy;rfl
     ·cases hy
    ·exact g9 i y (by simpa using hi) hy,λi c y hc hy=>by
    simp only[Array.getElem?_setIfInBounds]at hy;split at hy
    ·rename_i e0;split at hy
     ·cases hy;subst e0;simp at hc;subst hc;have hko:(σ.set kb o)[kb]? =some o:=by rw[List.getElem?_set_self (by rw[H.len];exact hkl)]
      exact .op o hko ⟨_,rfl⟩ oma (λ_=>⟨b,g4,rfl⟩)
     ·cases hy
    ·rename_i e0;have hne:i≠0:=λe1=>e0 e1.symm
     have hcs: [.op kb vb 0,B]= [.nilp,B].set 0 (.op kb vb 0):=rfl;rw[hcs,List.getElem?_set_ne (λe1=>hne e1.symm)]at hc
     exact (g8 i c y hc hy).ext e⟩)
  exact⟨_,_,rfl,u1,.imm (.tup rfl (λi c x hc=>by simp at hc)),u2⟩
 ·obtain⟨o',q1,q2,q3⟩:=CJ hA0;rw[g2]at q1;cases q1;obtain⟨b',q4,q5⟩:=q3 g3;rw[g4]at q4;cases q4;rw[q5]at hc0;refine (callsIn_wide.2 (rP b 0 w hc0)).mono ?_;rintro e w' ⟨rfl,rfl⟩;rw[jE hk];exact⟨_,σ,rfl,H,.imm (.tup rfl (λi c x hc=>by simp at hc)),Ext.refl w' σ⟩
theorem bK{kb vb kj v m:Nat}{h:JN}{s:List UInt8}(hkl:kb<h.length)(hjl:kj<h.length): ∀o∈qt kj (qt kb h (.mem vb 333 [.op kb vb 0,.osl kj v 1 0 m])) (az v s),o∈h∨lowO h.length o:=by
 intro o ho;rcases jk ho with h1|rfl
 ·rcases jk h1 with h2|rfl
  ·exact .inl h2
  ·right;intro c hc;simp only[List.mem_cons,List.not_mem_nil,or_false]at hc;rcases hc with rfl|rfl
   ·simpa[qR] using hkl
   ·simpa[qR] using hjl
 ·exact .inr (jc v s _)
theorem Up(kb vb kj v:Nat)(A:AV)(s u:List UInt8)(h:JN)(hne:kj≠kb)(hk:qu kb h=some (.mem vb 333 [A,.osl kj v 1 0 s.length]))(hA:A= .nilp∨A= .op kb vb 0)(hj:qu kj h=some (az v s))(hl:s.length+u.length<=140737488355328):
  ACalls Tryz.prog 277 [.op kb vb 0,.str u] h (.tup [.int .i64 u.length,.nilif]) (qt kj (qt kb h (.mem vb 333 [.op kb vb 0,.osl kj (v+1) 1 0 (s.length+u.length)])) (az (v+1) (s++u))):=by
 have hkl:=zh hk;have hjl:=zh hj;have hne':kb≠kj:=λe=>hne e.symm
 have hk1: ∀l,qu kb (h++l)=some (.mem vb 333 [A,.osl kj v 1 0 s.length]):=λl=>by rw[zA hkl,hk]
 refine acO G7 ?_;simp (disch:=omega) only[EO,go_sem];refine qE (ccS kb vb A _ _ (hk1 _) hA) ⟨rfl,trivial⟩ ?_
 by_cases hs:s= []
 ·subst hs;rw[yx]at hj;simp (disch:=omega) only[zC,jf,qQ,bV,bW,cz,cB,zP,jp,ql,aZ,hj,go_sem];refine⟨oma,⟨by simp,by simp at hl;omega⟩,?_⟩;rw[bL hne',Yd];refine kX ⟨trivial,trivial,trivial⟩ (by simp only[qL]) (bK hkl hjl) ⟨rfl,?_⟩ (qi);simp
 ·rw[wF hs]at hj;simp (disch:=omega) only[zC,jf,qQ,bV,bW,cz,cB,zP,jp,ql,wj,hj,jx,go_sem]
  repeat' first|(with_reducible apply aiA)
  all_goals first
   |omega
   |(simp[jx];done)
   |skip
  rw[bL hne',ltl (by simp[jx]),<-aP,<-wF (by simp[hs])];exact kX ⟨trivial,trivial,trivial⟩ (by simp only[qL]) (bK hkl hjl) ⟨rfl,rfl⟩ (qi)
theorem TX(kb vb kj v:Nat)(A:AV)(s:List UInt8)(h:JN)(hne:kj≠kb)(hk:qu kb h=some (.mem vb 333 [A,.osl kj v 1 0 s.length]))(hj:qu kj h=some (az v s)):
  ACalls Tryz.prog 278 [.op kb vb 0] h (.str s) (qt kj h (.emp (v+1))):=by
 refine⟨AZ Tryz.func278 (by kernel_rfl) (by kernel_rfl),λw σ xs H hv=> ?_⟩;obtain⟨x,rfl,hx⟩:=hv.one;have hc:=qJ hk;obtain⟨cs,o,b,arr,g1,rfl,g2,g3,g4,g5,g6,g7,g9,g8⟩:=kr H hx (by rw[hc];rfl);rw[hc]at g1;cases g1;have hty:=(H.obj kb _ o hk g2).2.1;rw[hty]at g5;have g5b:=g5;have g5:=g5.plain (by decide);have hsz:2<=arr.size:=g7;have hc1:w.cell? ⟨b,0+1,none⟩=some arr[0+1]:=by rw[jV g5b];simp
 have hB:=g8 (0+1) _ arr[0+1] rfl (by simp);obtain⟨oj,j1,j2,j3⟩:=ZA hB;have hobj:=H.obj kj _ oj hj j1;have hkj:=zh hj
 by_cases hs:s= []
 ·subst hs;rw[yx]at hj hobj;obtain⟨m1,m2⟩:=hobj;rcases j3 m1 with⟨_,_,_,e⟩|⟨b',cap,e,_⟩
  ·rw[e]at hc1;refine (callsIn_wide.2 (md b 0 w hc1)).mono ?_;rintro e w' ⟨rfl,rfl⟩;obtain⟨u1,u2⟩:=H.update (w':=w.drew) (o':= { oj with blk:=none,ver:=v+1 }) (a':= .emp (v+1)) j1 ⟨rfl,rfl,rfl,nlr _,λ_ _ _=>rfl⟩ (by simp only;omega) (by simp only;omega) (by intro b' e;cases e) (λb' r e hr=>⟨r,hr⟩) (λ_=>⟨rfl,rfl⟩);exact⟨_,_,rfl,u1,.imm .str,u2⟩
  ·rw[m2]at e;cases e
 ·rw[wF hs]at hj hobj;obtain⟨m1,m2,bj,arrj,m3,m4,m5,m6,m7,m8⟩:=hobj;rcases j3 m1 with⟨e,_⟩|⟨b',cap,e1,e2,e3,e4,e5⟩
  ·rw[m3]at e;cases e
  ·rw[m3]at e1;cases e1;rw[e2]at hc1;rw[m2]at m4;have m4b:=m4;have m4:=m4.plain (by decide);rw[jx]at m6;refine (callsIn_wide.2 (mf b 0 bj cap s arrj w hs hc1 m4 e3 e4 oma (λj x hx=> ?_))).mono ?_
   ·have hjl:j<s.length:=(lgs.1 hx).1;rw[jV m4b];have ea:arrj[j]? =some arrj[j]:=by simp
    have:=m8 j (.int .u8 x.toNat) arrj[j] (by simp[zE,hx]) ea
    rw[ea,zK this]
   ·rintro e w' ⟨rfl,rfl⟩;have hg:w.grownBy (w.drew.freeze ⟨bj,0,none⟩ s.length) oj.blk:=by
     rw[m3];exact x8 w bj s.length
    obtain⟨u1,u2⟩:=H.update (o':= { oj with blk:=none,ver:=v+1 }) (a':= .emp (v+1)) j1 hg (by simp only;omega) (by simp only;omega) (by intro b' e;cases e)
     (λb' r e hr=>by rw[m3]at e;cases e;rw[m4]at hr;cases hr) (λ_=>⟨rfl,rfl⟩)
    exact⟨_,_,rfl,u1,.imm .str,u2⟩
end HY
end
section
open Go Go.Proofs AF
def xE:List Nat:= [277,278,377,347,287,344,288,345,290]
def Fb:C:=
 (pk [MV 7 0,O1 8 .len 7,oF 9 0] (C.block 0 (pk [BI 10 .lss 9 8] ((p8 10 0).seq ((C.block 1 (pk [O2 11 (.idxA 4) 7 9,O1 12 (.load (some 4)) 11,⟨some 5,none,.alloc 0 234 [i6
 0,.str [],i6 0,.nl],[]⟩,ST 4 5 12] (pk [oE 13 0 5,LD 14 13,O1 15 (.gix 4 12 4) 14,O1 16 (.load (some 4)) 15,⟨some 6,none,.alloc 1 414 [.str [],.bool false,.bool false,.bool
 false],[]⟩,ST 4 6 16] (C.block 2 (pk [oE 26 0 5,LD 27 26,oT 28 .eql 27 1,MV 25 28] (C.cond (.t 25) (rv [oE 29 1 5,LD 30 29,O2 31 (.call 277 false) 1 30]) (pk [oE 33 3 6,LD 34
 33,MV 32 34] (C.cond (.t 32) (pk [oE 35 0 6,LD 36 35,ON 37 (.bin .add) [.c (.str [60]),.t 36],O1 38 (.load (some 4)) 5,O1 39 (.call 375 true) 38,BI 40 .add 37 39,BC 41 .add 40
 (.str [62]),O2 42 (.call 277 false) 1 41] (pk [LD 43 2,oE 44 3 5,LD 45 44,O2 46 .callv 43 45] (rv [oE 47 0 6,LD 48 47,ON 49 (.bin .add) [.c (.str [60,47]),.t 48],BC 50 .add 49
 (.str [62]),O2 51 (.call 277 false) 1 50]))) (rv [oE 17 0 6,LD 18 17,ON 19 (.bin .add) [.c (.str [60]),.t 18],O1 20 (.load (some 4)) 5,O1 21 (.call 375 true) 20,BI 22 .add 19
 21,BC 23 .add 22 (.str [47,62]),O2 24 (.call 277 false) 1 23]))))))))).seq (rv [oT 52 .add 9 1,MV 9 52])))).loop))
theorem HD:qK Tryz.prog 374 53 2 [] Fb:=fi Tryz.f374 [5,6] xE []
@[go_sem]def xD:DT:= DT.one ⟨some 22,none,.nilchk,[.t 10]⟩ (DT.one ⟨some 23,none,.fldA 5,[.t 22]⟩ (DT.one ⟨none,none,.store 1,[.t 23,.t 19]⟩ DT.nil))
@[go_sem]def xv:DT:= DT.one ⟨some 17,some (15,false),.load none,[.t 16]⟩ (DT.one ⟨some 18,some (15,false),.bin .eql,[.t 17,.c (i6 5)]⟩ (DT.one ⟨some 19,none,.pick,[.t 15,.c (.bool true),.t 18]⟩ xD))
def EW:C:=
 (pk [O1 3 (.box 0 348) 1] (pk [oE 5 0 3,LD 6 5] (C.block 0 (pk [oT 25 .eql 6 1,MV 24 25] (C.cond (.t 24) (rv [MV 26 0,O1 27 (.load (some 7)) 3,O2 28 (.call 344 false) 26 27])
 (pk [oT 30 .eql 6 6,MV 29 30] (C.cond (.t 29) (pk [MV 31 0,O1 32 (.call 288 false) 31] (pk [oF 4 2] ((pk [oE 33 5 3,LD 34 33] (p7 34 (rv [MV 35 4,oT 36 .or 35 1,MV 4 36]))).seq
 (pk [MV 37 0,O1 38 (.load (some 7)) 3,MV 39 4,ON 40 (.call 345 false) [.t 37,.t 38,.t 39]] (rv [MV 41 0,O1 42 (.call 346 true) 41,oE 43 2 3,LD 44 43,O1 45 (.call 116 true)
 44,ON 46 (.bin .add) [.c (.str [91]),.t 45],BC 47 .add 46 (.str [93]),O1 48 .nilchk 42,oE 49 0 48,ST 1 49 47]))))) (pk [MV 7 0,O1 8 (.call 288 false) 7] (C.draw (DT.one ⟨some
 9,none,.mv,[.t 0]⟩ (DT.one ⟨some 10,none,.mv,[.t 0]⟩ (DT.one ⟨some 11,none,.mv,[.t 0]⟩ (DT.one ⟨some 12,none,.nilchk,[.t 11]⟩ (DT.one ⟨some 13,none,.fldA 5,[.t 12]⟩ (DT.one
 ⟨some 14,none,.load none,[.t 13]⟩ (DT.one ⟨some 15,none,.mv,[.t 14]⟩ (DT.one ⟨some 20,none,.nilchk,[.t 9]⟩ (DT.one ⟨some 21,none,.fldA 4,[.t 20]⟩ ((DT.one ⟨some 16,some
 (15,false),.fldA 0,[.t 3]⟩ ((DT.one ⟨some 17,some (15,false),.load none,[.t 16]⟩ (DT.one ⟨some 18,some (15,false),.bin .eql,[.t 17,.c (i6 5)]⟩ (DT.one ⟨some 19,none,.pick,[.t
 15,.c (.bool true),.t 18]⟩ (DT.one ⟨none,none,.store 1,[.t 21,.c (.bool false)]⟩ xD)))).two (DT.one ⟨none,none,.store 1,[.t 21,.c (.bool false)]⟩ xv))).two (DT.one
 ⟨none,none,.store 1,[.t 21,.c (.bool false)]⟩ (DT.one ⟨some 16,some (15,false),.fldA 0,[.t 3]⟩ xv)))))))))))))))))))))
theorem Hj:qK Tryz.prog 287 50 1 [] EW:=fi Tryz.f287 [3] xE []
def Yn:C:=
 ((pk [MV 2 0,O1 3 .nilchk 2,oE 4 3 3,LD 5 4] (p7 5 (rv [MV 6 0,O1 7 (.call 346 true) 6,MV 8 0,O1 9 .nilchk 8,oE 10 1 9,O1 11 (.call 278 false) 10,O1 12 .nilchk 7,oE 13 0 12,ST 1
 13 11]))).seq (pk [MV 14 0,O1 15 .nilchk 14,oE 16 3 15,⟨none,none,.store 1,[.t 16,.c (.bool false)]⟩] (rv [MV 17 0,O1 18 .nilchk 17,oE 19 1 18,O1 20 (.call 347 false) 19])))
theorem Xf:qK Tryz.prog 288 21 0 [] Yn:=fi Tryz.f288 [] xE []
@[go_sem]def xS:DT:= DT.one ⟨some 38,none,.app 2 6 119 80,[.t 30,.t 37]⟩ (DT.one ⟨some 39,none,.nilchk,[.t 26]⟩ (DT.one ⟨some 40,none,.fldA 0,[.t 39]⟩ (DT.one ⟨none,none,.store 1,[.t 40,.t 38]⟩
 DT.nil)))
@[go_sem]def xV:DT:= DT.one ⟨some 30,none,.load none,[.t 29]⟩ xS
def Ja:C:=
 (pk [O1 4 (.box 0 348) 1] ((pk [MV 6 0,O1 7 .nilchk 6,oE 8 4 7,LD 9 8,MV 10 9,MG 11 10 true 0,P1 12 10 true .nilchk 11,P1 13 10 true (.fldA 0) 12,P1 14 10 true (.load none)
 13,P1 15 10 true .len 14,PC 16 10 true (.bin .gtr) 15 (i6 0),PF 17 10 16] (p7 17 (rv [MV 18 2,oT 19 .or 18 16,MV 2 19]))).seq ((pk [MV 20 0,O1 21 .nilchk 20,oE 22 5 21,LD 23
 22] (p7 23 (rv [MV 24 2,oT 25 .or 24 4,MV 2 25]))).seq ((C.draw (DT.one ⟨some 26,none,.mv,[.t 0]⟩ (DT.one ⟨some 27,none,.mv,[.t 0]⟩ (DT.one ⟨some 31,none,.fldA 3,[.t 4]⟩
 (DT.one ⟨some 32,none,.load (some 2),[.t 31]⟩ (DT.one ⟨some 33,none,.mv,[.t 2]⟩ (DT.one ⟨some 34,none,.fldA 6,[.t 4]⟩ (DT.one ⟨some 35,none,.load none,[.t 34]⟩ (DT.one ⟨some
 36,none,.build [.str [],.str [],.str [],i6 0,i6 0,.str []] [(2,2),(4,1),(5,1)],[.t 32,.t 33,.t 35]⟩ ((DT.one ⟨some 28,none,.nilchk,[.t 27]⟩ ((DT.one ⟨some 29,none,.fldA 0,[.t
 28]⟩ ((DT.one ⟨some 30,none,.load none,[.t 29]⟩ (DT.one ⟨some 37,none,.bslc 1 6 1 119 [.str [],.str [],.str [],i6 0,i6 0,.str []] [(0,6)],[.t 36]⟩ xS)).two (DT.one ⟨some
 37,none,.bslc 1 6 1 119 [.str [],.str [],.str [],i6 0,i6 0,.str []] [(0,6)],[.t 36]⟩ xV))).two (DT.one ⟨some 37,none,.bslc 1 6 1 119 [.str [],.str [],.str [],i6 0,i6 0,.str []]
 [(0,6)],[.t 36]⟩ (DT.one ⟨some 29,none,.fldA 0,[.t 28]⟩ xV)))).two (DT.one ⟨some 37,none,.bslc 1 6 1 119 [.str [],.str [],.str [],i6 0,i6 0,.str []] [(0,6)],[.t 36]⟩ (DT.one
 ⟨some 28,none,.nilchk,[.t 27]⟩ (DT.one ⟨some 29,none,.fldA 0,[.t 28]⟩ xV))))))))))))).seq (rv [MV 41 0,MV 42 0,O1 43 .nilchk 41,oE 44 4 43,⟨none,none,.store 1,[.t 44,.c (.bool
 true)]⟩,O1 45 .nilchk 42,oE 46 5 45,⟨none,none,.store 1,[.t 46,.c (.bool false)]⟩])))))
theorem tf:qK Tryz.prog 345 47 3 [] Ja:=fi Tryz.f345 [4,37,38] xE []
def E8:C:=
 (pk [MV 2 0,O1 3 .nilchk 2,oE 4 0 3,⟨none,none,.store 1,[.t 4,.c .nilp]⟩] (rv [MV 5 0,O1 6 .nilchk 5,oE 7 1 6,⟨none,none,.store 1,[.t 7,.c .nl]⟩]))
theorem HA:qK Tryz.prog 347 8 0 [] E8:=fi Tryz.f347 [] xE []
def EX:C:=
 (pk [ON 4 (.nilo 0 6 119) [],oF 5 0] ((pk [MV 9 1,O1 10 .len 9,oF 11 0] (C.block 0 (pk [BI 12 .lss 11 10] ((p8 12 0).seq ((C.block 1 (pk [MV 13 11,MV 6 13] (pk [MV 14 1,MV 15
 6,MV 16 1,MV 17 6,O2 18 (.idxA 6) 16 17,oE 19 0 18,LD 20 19,O2 21 (.idxA 6) 14 15,oE 22 1 21,ST 1 22 20] ((pk [MV 23 1,MV 24 6,O2 25 (.idxA 6) 23 24,O1 26 (.load (some 6))
 25,O1 27 (.call 258 true) 26,O1 28 (.un UnOp.not) 27] (p7 28 (C.exit 1))).seq (pk [MV 30 0,MV 31 1,MV 32 6,O2 33 (.idxA 6) 31 32,oE 34 0 33,LD 35 34,O2 36 (.call 348 true) 30
 35,MV 29 36,O1 37 (.ext 0) 29,O1 38 (.ext 1) 29,MV 7 37,MV 8 38] ((pk [MV 39 8,oT 40 .neq 39 0] (p7 40 (p9 [MV 41 8,ON 4 (.nilo 0 6 119) [],MV 5 41]))).seq (rv [MV 42 1,MV 43
 6,MV 44 7,O2 45 (.idxA 6) 42 43,oE 46 1 45,ST 1 46 44]))))))).seq (rv [oT 47 .add 11 1,MV 11 47])))).loop)).seq (p9 [MV 48 1,MV 4 48,oF 5 0])))
theorem Hk:qK Tryz.prog 290 49 1 [RV.tmp 4,RV.tmp 5] EX:=fi Tryz.f290 [4] xE []
end
section
open Go Go.Proofs AF HY LN
namespace RC
theorem itN(s:Str):pd Tryz.prog 372 [.ip [jZ s]] [[.agg (plC s)]]:=by
 intro h ts LI S E hS hE body start hts;have hb:(h++ [AObj.lp LS.ready ts LI]).length=h.length+1:=by simp
 have ea: ∀st,h++ [AObj.lp st ts LI]++ [.mem 1 411 [.yld h.length],.mem 1 412 [.fn (.func 373) [] [.op (h.length+1) 1 0,.op (h.length+2) 1 0]]]=h++ [AObj.lp st ts LI,cyl h.length,cwk h.length]:=λst=>by simp[cyl,cwk]
 refine acQ HC ?_;simp (disch:=omega) only[Fa,jZ,go_sem]
 repeat' first|with_reducible apply aiA|exact clz|fail
 simp only[hb,Nat.add_assoc,Nat.reduceAdd,ea];refine rK (wlk1 s h ts LI S E hS hE body start hts) ?_;rintro v h' ⟨hh',⟨rfl,hn,rfl⟩|⟨st,rfl,hs',rfl⟩⟩
 ·simp (disch:=omega) only[go_sem];obtain⟨r1,r2⟩:=(hS _ _ hn).retX (L:=LI) (xs:= []) .ready hts;have eO:hh'++ [.lp .ready ts LI,cyl h.length,cwk h.length]=(hh'++ [.lp .ready ts LI])++ [cyl h.length,cwk h.length]:=by simp
  rw[eO];exact zH trivial r1 r2 ⟨hh',.inl ⟨hn,rfl⟩⟩ (qi)
 ·simp (disch:=omega) only[go_sem];obtain⟨r1,r2⟩:=(hE _ _ hs').retX (L:=LI) (xs:= []) st hts;have eO:hh'++ [.lp st ts LI,cyl h.length,cwk h.length]=(hh'++ [.lp st ts LI])++ [cyl h.length,cwk h.length]:=by simp
  rw[eO];exact zH trivial r1 r2 ⟨hh',.inr ⟨st,hs',rfl⟩⟩ (qi)
theorem Bl(s:Str)(h:JN):ACalls Tryz.prog 338 [jZ s] h (.fn (.func 372) [] [.ip [jZ s]]) h:=by
 refine acO Ht ?_;simp (disch:=omega) only[E2,jZ,ndC,go_sem]
 repeat' first|exact tF|fail
theorem TT(n:Int)(k v:Nat)(h:JN)(hk:qu k h=some (.mem v 3 [.int .i64 n]))(h0:1<=n)(h1:n<=4096):ACalls Tryz.prog 337 [.op k v 0] h (.bool true) (qt k h (.mem v 3 [.int .i64 (n-1)])):=by
 have hkl:=zh hk;have c1:=qJ hk;have k1:(0<=n-1)=True:=eqt oma;have ht:ZK (qu k h)=3:=by rw[hk];rfl
 refine acO Hr ?_;simp (disch:=omega) only[E1,c1,k1,go_sem]
 repeat' first|with_reducible apply aiA|exact clz|fail
 rw[ht];exact lr ⟨trivial,trivial⟩ qL (KJ (λn c hc=>by simp at hc;subst hc;rfl)) ⟨rfl,rfl⟩ (qi)
theorem gU(s:Str)(v:Nat)(ty:TypeId): ∀n,lowO n (.mem v ty (plC s)):=λn c hc=>by
 simp[plC]at hc;rcases hc with rfl|rfl|rfl|rfl|rfl|rfl<;>rfl
theorem Rx(s:Str)(k:Int)(h:JN)(h1:2<=k)(h2:k<=11)(hc: ∀l,ACalls Tryz.prog 283 [jZ s] (h++l) (.int .i64 0) (h++l)):ACalls Tryz.prog 285 [jZ s,.int .i64 k] h (.tup [.int .i64 0,.int .i64 0]) h:=by
 have c1:=λh=>Bl s h
 have k1:(k<1)=False:=eqf oma;have k2:(11<k)=False:=eqf oma;have k3:((1:Int)=k)=False:=eqf oma;unfold jZ at c1 hc;refine acO Hh ?_;simp (disch:=omega) only[EU,jZ,go_sem]
 repeat' first|((first|refine cA (hc _) ?_ ?_|refine cA (c1 _) ?_ ?_);exact flk;simp (disch:=omega) only[k1,k2,go_sem])|with_reducible apply aiA|exact clz|fail
 refine zn (xs:= [[.agg (plC s)]]) (itN s) (by simp)
  (S:=λi hh=> ∃O,qG [O] 0=true∧(∀n,lowO n O)∧hh=h++ [.mem 1 3 [.int .i64 k],.mem 1 3 [.int .i64 0],O]) (E:=λ_ _=>False) ?_ ?_ ?_ ?_ ?_ ?_ ?_
 ·rintro i hh ⟨O,_,l1,rfl⟩;refine LowI.app rfl (λo ho=> ?_);simp only[List.mem_cons,List.not_mem_nil,or_false]at ho;rcases ho with rfl|rfl|rfl
  ·left;simp
  ·left;simp
  ·right;exact⟨l1 _,l1 _⟩
 ·intro s hh hf;exact hf.elim
 ·exact⟨.emp 0,rfl,λ_=>trivial,rfl⟩
 ·simp[qR,qR.lowVs]
  try omega
 ·rintro i hh tl LI TS hi ⟨O,s1,l1,rfl⟩ hlen K K2 hK hN hR' hX;obtain rfl:i=0:=by simp at hi;omega
  have s1': ∀m,qG (O::m) 0=true:=λ_=>s1
  show qV _ _ _ _ (ke _ _ [.agg (plC s)]) _;simp only[ke];simp (disch:=omega) only[List.append_assoc,plC,s1',go_sem];refine hK _ _ (h++ [.mem 1 3 [.int .i64 k],.mem 1 3 [.int .i64 0],.mem (qo (some O)+1) 386 (plC s)]) (by simp[plC]) (by simp) ?_;simp (disch:=omega) only[List.append_assoc,plC,k3,go_sem]
  repeat' first|with_reducible apply aiA|exact clz|fail
  refine hN _ _ (h++ [.mem 1 3 [.int .i64 k],.mem 1 3 [.int .i64 0],.mem (qo (some O)+1) 386 (plC s)]) (by simp[plC]) (by simp) ⟨.mem (qo (some O)+1) 386 (plC s),rfl,gU s _ _,rfl⟩
 ·rintro hh ⟨O,s1,l1,rfl⟩;simp (disch:=omega) only[go_sem]
  repeat' first|exact tF|with_reducible apply aiA|exact clz|fail
 ·intro e hh hf;exact hf.elim
end RC
end
section
open Go Go.Proofs AF
def Av:List Nat:= [277,278,377,347,287,344,288,345,290]
def E4:C:=
 (pk [MC 2 (.str [])] (pk [⟨some 3,none,.alloc 0 333 [.nilp,.nl],[]⟩] (pk [⟨some 4,none,.alloc 1 416 [.nilfn],[]⟩] (pk [O2 5 (.mkfn (Fn.func 374) 0) 3 4,ST 1 4 5] ((C.wk.seq (rv
 [LD 6 4,MV 7 0,O2 8 .callv 6 7])).seq (p9 [O1 9 (.call 278 false) 3,MV 2 9]))))))
theorem Hv:qK Tryz.prog 340 10 3 [RV.tmp 2] E4:=fi Tryz.f340 [3,4,8] Av [4]
end
section
open Go Go.Proofs AF HY LN
namespace RC
theorem Ur(s:Str)(kb vb kj v kw:Nat)(h:JN)(hne:kj≠kb)(hk:qu kb h=some (.mem vb 333 [.nilp,.osl kj v 1 0 0]))(hj:qu kj h=some (.emp v))(hl:s.length<=1000000)(hs:s≠ [])(hg:jb h frmN frmC):
  ACalls Tryz.prog 374 [jZ s,.op kb vb 0,.op kw 1 0] h (.tup []) (qt kj (qt kb h (.mem vb 333 [.op kb vb 0,.osl kj (v+1) 1 0 s.length])) (az (v+1) s)):=by
 have hkl:=zh hk;have hjl:=zh hj;refine acO HD ?_;simp (disch:=omega) only[Fb,jZ,ndC,go_sem];obtain⟨H1,hH1⟩:=Qt (qt kj (qt kb h (.mem vb 333 [.op kb vb 0,.osl kj (v+1) 1 0 s.length])) (az (v+1) s))
 rw[<-hH1];have hH1l:H1.length=h.length:=by rw[hH1];simp only[qL]
 refine qr (T:=λi:Nat×AObj×AObj=>qY 53 [(1,.op kb vb 0),(2,.op kw 1 0),(7,jZ s),(8,.int .i64 ((1:Nat):Int)),(9,.int .i64 i.1)])
  (H:=λi=>(if i.1=0 then h else H1)++ [i.2.1,i.2.2])
  (inv:=λi=>i.1<=1∧qG [i.2.1] 0=true∧qG [i.2.2] 0=true) (m:=λi=>1-i.1) (0,.emp 0,.emp 0) ⟨nzl _,rfl,rfl⟩ (Wk.temps ?_) ?_
 ·(simp only[jZ,ndC,go_sem,qg,qc,qb,qf];try exact tT)
 rintro⟨i,O5,O6⟩ ⟨i1,i2,i3⟩ K hK;simp only at i1 i2 i3 hK;have i2': ∀m,qG (O5::m) 0=true:=λ_=>i2
 have i3': ∀m,qG (O6::m) 0=true:=λ_=>i3
 by_cases hi:i<1
 ·obtain rfl:i=0:=by omega
  simp only[if_true];simp (disch:=omega) only[jZ,ndC,i2',go_sem]
  repeat' first|(with_reducible first|intro _|apply aiA)|exact clz|fail
  refine Xt (cs:=frmC) hg.app ⟨by decide,by decide⟩ rfl ?_;rw[Xp];simp (disch:=omega) only[H6,i3',go_sem];refine qE (Up kb vb kj v .nilp [] s _ hne (by rw[zA hkl];exact hk) (.inl rfl) (by rw[zA hjl];exact hj) (by simp;omega)) (by exact flk) ?_;have eH: ∀l,qt kj (qt kb (h++l) (.mem vb 333 [.op kb vb 0,.osl kj (v+1) 1 0 (([]:Str).length+s.length)])) (az (v+1) ([]++s))=H1++l:=λl=>by
   rw[hH1,lnl,Nat.zero_add,lna,zC hkl,zC (by rw[qL];exact hjl)]
  rw[eH];simp (disch:=omega) only[go_sem];refine hK _ _ (1,.mem (qo (some O5)+1) 234 (ndC s),.mem (qo (some O6)+1) 414 H6) ⟨nlr _,rfl,rfl⟩ (by simp only;omega) ?_;rw[ine (by simp)];simp only[ndC,H6];refine Wk.temps ?_
  (simp only[jZ,ndC,go_sem,qg,qc,qb,qf];try exact tT)
 ·obtain rfl:i=1:=by omega
  rw[ine (by simp)];simp (disch:=omega) only[jZ,ndC,go_sem]
  repeat' first|(with_reducible first|intro _|apply aiA)|exact clz|fail
  refine zH trivial hH1l ?_ ⟨rfl,rfl⟩ (qi);rw[hH1];exact bK hkl hjl
theorem OY(s:Str)(h:JN)(hl:s.length<=1000000)(hs:s≠ [])(hg:jb h frmN frmC):ACalls Tryz.prog 340 [jZ s] h (.str s) h:=by
 refine acO Hv ?_;simp (disch:=omega) only[E4,jZ,go_sem];refine⟨_,_,Wk.ownNil (j:=h.length) (i:=1) (k:=h.length+2) (v:=1) (ty:=333) (cs:= [.nilp,.nl]) (ve:=0) (sz:=1) ?m1 rfl ?m2,?_⟩
 case m1=>simp only[go_sem]
 case m2=>simp only[go_sem]
 simp (disch:=omega) only[List.set_cons_zero,List.set_cons_succ,go_sem]
 repeat' first|with_reducible apply aiA|exact clz|fail
 refine kl (Ur s h.length 1 (h.length+2) 0 (h.length+1) _ oma (by simp only[go_sem]) (by simp only[go_sem]) hl hs hg.app) ?_;simp (disch:=omega) only[go_sem];refine qE (TX h.length 1 (h.length+2) 1 (.op h.length 1 0) s _ oma (by simp only[go_sem]) (by simp only[go_sem])) (by exact flk) ?_;simp (disch:=omega) only[go_sem]
 repeat' first|exact tF|fail
theorem NR(s:Str)(h:JN)(hl:s.length<=1000000)(hl2:s.length<=65536)(hs:s≠ [])(hc:zS s=0)(hg:jb h frmN frmC):ACalls Tryz.prog 283 [jZ s] h (.int .i64 0) h:=by
 have c1:=λh=>Bl s h
 unfold jZ at c1;obtain⟨cs,hcs⟩:=Qt (AObj.mem 1 30 [.fn (.func 337) [] [.op (h.length+1) 1 0]])
 refine acO Hf ?_;simp (disch:=omega) only[ES,jZ,go_sem]
 repeat' first|(refine cA (c1 _) flk ?_;simp (disch:=omega) only[go_sem])
 refine zn (xs:= [[.agg (plC s)]]) (itN s) (by simp)
  (S:=λi hh=> ∃O,qG [O] 0=true∧(∀n,lowO n O)∧hh=h++ [.mem 1 28 [.int .i64 0],.mem 1 3 [.int .i64 (4096-i)],cs,O,.emp 0]) (E:=λ_ _=>False) ?_ ?_ ?_ ?_ ?_ ?_ ?_
 ·rintro i hh ⟨O,_,l1,rfl⟩;refine LowI.app rfl (λo ho=> ?_);simp only[List.mem_cons,List.not_mem_nil,or_false]at ho;rcases ho with rfl|rfl|rfl|rfl|rfl
  ·left;simp
  ·right;exact⟨λc hc=>(by simp at hc;subst hc;rfl),λc hc=>(by simp at hc;subst hc;rfl)⟩
  ·left;rw[hcs];simp
  ·right;exact⟨l1 _,l1 _⟩
  ·left;simp
 ·intro s hh hf;exact hf.elim
 ·exact⟨.emp 0,rfl,λ_=>trivial,by rw[hcs];rfl⟩
 ·simp[qR,qR.lowVs]
  try omega
 ·rintro i hh tl LI TS hi ⟨O,s1,l1,rfl⟩ hlen K K2 hK hN hR' hX;obtain rfl:i=0:=by simp at hi;omega
  have s1': ∀m,qG (O::m) 0=true:=λ_=>s1
  show qV _ _ _ _ (ke _ _ [.agg (plC s)]) _;simp only[ke];simp (disch:=omega) only[List.append_assoc,plC,s1',go_sem];refine hK _ _ (h++ [.mem 1 28 [.int .i64 0],.mem 1 3 [.int .i64 4096],cs,.mem (qo (some O)+1) 386 (plC s),.emp 0]) (by simp[plC]) (by simp) ?_;rw[hcs];simp (disch:=omega) only[List.append_assoc,plC,go_sem]
  repeat' first|with_reducible apply aiA|exact clz|fail
  refine kl (TT 4096 (h.length+1) 1 _ (by simp only[go_sem]) oma oma) ?_;simp (disch:=omega) only[go_sem]
  repeat' first|(with_reducible first|intro _|apply aiA)|exact clz|fail
  refine hN _ _ (h++ [.mem 1 28 [.int .i64 0],.mem 1 3 [.int .i64 4095],cs,.mem (qo (some O)+1) 386 (plC s),.emp 0]) (by rw[hcs];simp[plC]) (by simp) ⟨.mem (qo (some O)+1) 386 (plC s),rfl,gU s _ _,rfl⟩
 ·rintro hh ⟨O,s1,l1,rfl⟩;have c2:=λh=>Bl s h
  unfold jZ at c2;rw[hcs];simp (disch:=omega) only[go_sem]
  repeat' first|(refine cA (c2 _) flk ?_;simp (disch:=omega) only[go_sem])
  have c5:=λl=>TL s (h++l) hs hl hc hg.app
  have c6:=λl=>OY s (h++l) hl hs hg.app
  unfold jZ at c6;unfold plC at c5;refine zn (xs:= [[.agg (plC s)]]) (itN s) (by simp)
   (S:=λi hh=> ∃O6,qG [O6] 0=true∧(∀n,lowO n O6)∧hh=h++ [.mem 1 28 [.int .i64 0],.mem 1 3 [.int .i64 4095],cs,O,O6]) (E:=λ_ _=>False) ?_ ?_ ?_ ?_ ?_ ?_ ?_
  ·rintro i hh ⟨O6,_,l2,rfl⟩;refine LowI.app rfl (λo ho=> ?_);simp only[List.mem_cons,List.not_mem_nil,or_false]at ho;rcases ho with rfl|rfl|rfl|rfl|rfl
   ·left;simp
   ·left;simp
   ·left;rw[hcs];simp
   ·left;simp
   ·right;exact⟨l2 _,l2 _⟩
  ·intro s hh hf;exact hf.elim
  ·exact⟨.emp 0,rfl,λ_=>trivial,by rw[hcs];rfl⟩
  ·simp[qR,qR.lowVs]
   try omega
  ·rintro i hh tl LI TS hi ⟨O6,s6,l6,rfl⟩ hlen K K2 hK hN hR' hX;obtain rfl:i=0:=by simp at hi;omega
   have s6': ∀m,qG (O6::m) 0=true:=λ_=>s6
   show qV _ _ _ _ (ke _ _ [.agg (plC s)]) _;simp only[ke];simp (disch:=omega) only[List.append_assoc,plC,s6',go_sem];refine hK _ _ (h++ [.mem 1 28 [.int .i64 0],.mem 1 3 [.int .i64 4095],cs,O,.mem (qo (some O6)+1) 386 (plC s)]) (by simp[plC]) (by simp) ?_;simp (disch:=omega) only[List.append_assoc,plC,go_sem]
   repeat' first|(refine cA (c5 _) flk ?_;simp (disch:=omega) only[go_sem])
   refine hN _ _ (h++ [.mem 1 28 [.int .i64 0],.mem 1 3 [.int .i64 4095],cs,O,.mem (qo (some O6)+1) 386 (plC s)]) (by simp[plC]) (by simp) ⟨.mem (qo (some O6)+1) 386 (plC s),rfl,gU s _ _,rfl⟩
  ·rintro hh ⟨O6,s6,l6,rfl⟩;have k1:((65536:Int)<s.length)=False:=eqf oma;simp (disch:=omega) only[go_sem]
   repeat' first|(refine cA (c6 _) flk ?_;simp (disch:=omega) only[k1,go_sem])|exact tF|fail
  ·intro e hh hf;exact hf.elim
 ·intro e hh hf;exact hf.elim
theorem RN(h:JN):ACalls Tryz.prog 284 [.nl] h (.int .i64 0) h:=by
 refine acO Hg ?_;simp (disch:=omega) only[ET,go_sem]
 repeat' first|(apply qa;exact rvk;simp only[go_sem];apply qe)|(with_reducible first|intro _|apply aiA)|exact clz|fail
 refine qr (T:=λ_:Unit=>qY 21 [(9,.nl),(10,.int .i64 0),(11,.int .i64 0)]) (H:=λ_=>h++ [.emp 0]) (inv:=λ_=>True) (m:=λ_=>0) () trivial (Wk.temps ?_) ?_
 ·(simp only[go_sem,qg,qc,qb,qf];try exact tT)
 rintro⟨⟩ _ K hK;simp (disch:=omega) only[go_sem]
 repeat' first|exact tF|(with_reducible first|intro _|apply aiA)|exact clz|fail
theorem Uh(s:Str)(h:JN)(hs:s.length<=1000000)(hw: ∀i,i<s.length->wi (ch s i)=true):ACalls Tryz.prog 376 [.str s] h (.bool true) h:=by
 refine acO HE ?_;simp (disch:=omega) only[Fe,go_sem];refine qr (T:=λi:Nat=>qY 19 [(0,.str s),(4,.str s),(5,.int .i64 s.length),(6,.int .i64 i)]) (H:=λ_=>h) (inv:=λi=>i<=s.length) (m:=λi=>s.length-i) 0 (nzl _) (Wk.temps ?_) ?_
 ·(simp only[go_sem,qg,qc,qb,qf];try exact tT)
 rintro i i1 K hK
 by_cases hi:i<s.length
 ·have k1:((i:Int)<s.length)=True:=eqt oma;have e:(s[i]?).getD 0=ch s i:=by simp[ch,gdqA]
  have c1:=λh=>yr (ch s i) h
  have g:=hw i hi;unfold wi at g;simp only[Bool.or_eq_true,decide_eq_true_eq]at g;obtain⟨k,hk⟩:=Qt (kind (ch s i))
  rw[<-hk]at g;simp only[<-hk]at c1
  by_cases g1:k=1
  ·subst g1;simp (disch:=omega) only[k1,e,go_sem]
   repeat' first|(refine cA (c1 _) flk ?_;simp (disch:=omega) only[go_sem])|with_reducible apply aiA|exact clz|fail
   refine hK _ _ (i+1) hi oma (Wk.temps ?_)
   (simp only[go_sem,qg,qc,qb,qf];try exact tT)
  by_cases g2:k=2
  ·subst g2;simp (disch:=omega) only[k1,e,go_sem]
   repeat' first|(refine cA (c1 _) flk ?_;simp (disch:=omega) only[go_sem])|(apply qh;exact rvk;simp only[go_sem];apply qd)|(with_reducible first|intro _|apply aiA)|exact clz|fail
   refine hK _ _ (i+1) hi oma (Wk.temps ?_)
   (simp only[go_sem,qg,qc,qb,qf];try exact tT)
  by_cases g3:k=3
  ·subst g3;simp (disch:=omega) only[k1,e,go_sem]
   repeat' first|(refine cA (c1 _) flk ?_;simp (disch:=omega) only[go_sem])|(apply qh;exact rvk;simp only[go_sem];apply qd)|(with_reducible first|intro _|apply aiA)|exact clz|fail
   refine hK _ _ (i+1) hi oma (Wk.temps ?_)
   (simp only[go_sem,qg,qc,qb,qf];try exact tT)
  obtain rfl:k=4:=by omega
  simp (disch:=omega) only[k1,e,go_sem]
  repeat' first|(refine cA (c1 _) flk ?_;simp (disch:=omega) only[go_sem])|(apply qh;exact rvk;simp only[go_sem];apply qd)|(with_reducible first|intro _|apply aiA)|exact clz|fail
  refine hK _ _ (i+1) hi oma (Wk.temps ?_)
  (simp only[go_sem,qg,qc,qb,qf];try exact tT)
 have k1:((i:Int)<s.length)=False:=eqf oma;simp (disch:=omega) only[k1,go_sem]
 repeat' first|exact tS|fail
theorem S8(s:Str)(hs:s.length<=1000000):pd Tryz.prog 392 [.ip [.str s],.ip [.nl]] []:=by
 intro h ts LI S E hS hE body start hts;refine acQ HL ?_;simp (disch:=omega) only[Ft,go_sem]
 repeat' first|with_reducible apply aiA|exact clz|fail
 refine qr (T:=λi:Nat=>qY 45 [(0,.yld h.length),(1,.ip [.str s]),(2,.ip [.nl]),(10,.int .i64 s.length),(11,.int .i64 i)]) (H:=λ_=>h++ [.lp .ready ts LI]++ [.emp 0]) (inv:=λi=>i<=s.length) (m:=λi=>s.length-i) 0 (nzl _) (Wk.temps ?_) ?_
 ·(simp only[go_sem,qg,qc,qb,qf];try exact tT)
 rintro i i1 K hK
 by_cases hi:i<s.length
 ·have k1:((i:Int)<s.length)=True:=eqt oma;simp (disch:=omega) only[k1,go_sem]
  repeat' first|with_reducible apply aiA|exact clz|fail
  refine qr (T:=λ_:Unit=>qY 45 [(0,.yld h.length),(1,.ip [.str s]),(2,.ip [.nl]),(4,.int .i64 i),(10,.int .i64 s.length),(11,.int .i64 i),(14,.nl),(15,.int .i64 0),(16,.int .i64 0)]) (H:=λ_=>h++ [.lp .ready ts LI]++ [.emp 0]) (inv:=λ_=>True) (m:=λ_=>0) () trivial (Wk.temps ?_) ?_
  ·(simp only[go_sem,qg,qc,qb,qf];try exact tT)
  rintro⟨⟩ _ K' hK';simp (disch:=omega) only[go_sem]
  repeat' first|(with_reducible first|intro _|apply aiA)|exact clz|fail
  refine hK _ _ (i+1) hi oma (Wk.temps ?_)
  (simp only[go_sem,qg,qc,qb,qf];try exact tT)
 have k1:((i:Int)<s.length)=False:=eqf oma;simp (disch:=omega) only[k1,go_sem];obtain⟨r1,r2⟩:=(hS _ _ start).retX (L:=LI) (xs:= []) .ready hts;exact zH trivial r1 r2 ⟨h,.inl ⟨start,rfl⟩⟩ (qi)
theorem TI(s:Str)(h:JN):ACalls Tryz.prog 391 [.nl,.str s] h (.fn (.func 392) [] [.ip [.str s],.ip [.nl]]) h:=by
 refine acO HK ?_;simp (disch:=omega) only[Fq,go_sem]
 repeat' first|exact tF|fail
theorem TW(s:Str)(h:JN)(hs:s.length<=1000000):ACalls Tryz.prog 390 [.nl,.str s] h (.tup [.str s,.bool false]) h:=by
 have c1:=λh=>TI s h
 refine acO HJ ?_;simp (disch:=omega) only[Fp,go_sem]
 repeat' first|(refine cA (c1 _) flk ?_;simp (disch:=omega) only[go_sem])
 refine zn (xs:= []) (S8 s hs) (by simp) (S:=λi hh=>hh=h++ [.mem 1 9 [.str []],.mem 1 4 [.bool false]]) (E:=λ_ _=>False) ?_ ?_ ?_ ?_ ?_ ?_ ?_
 ·rintro i hh rfl;exact LowI.refl _
 ·intro s hh hf;exact hf.elim
 ·rfl
 ·simp[qR,qR.lowVs]
  try omega
 ·rintro i hh tl LI TS hi;exact absurd hi (by simp)
 ·rintro hh rfl;simp (disch:=omega) only[go_sem]
  repeat' first|exact tF|fail
 ·intro e hh hf;exact hf.elim
theorem Ud(s:Str)(h:JN)(hs:s.length<=1000000):ACalls Tryz.prog 387 [.nl,.str s] h (.tup [strs [s],.int .i64 0]) h:=by
 have c1:=λh=>TW s h hs
 refine acO HI ?_;simp (disch:=omega) only[Fj,go_sem];refine qr (T:=λ_:Unit=>qY 32 [(0,.nl),(6,.osl (h.length+1) 1 1 0 1)]) (H:=λ_=>h++ [.emp 1,.mem 1 9 [.str s],.emp 0,.emp 0]) (inv:=λ_=>True) (m:=λ_=>0) () trivial (Wk.temps ?_) ?_
 ·(simp only[go_sem,qg,qc,qb,qf];try exact tT)
 rintro⟨⟩ _ K hK;simp (disch:=omega) only[go_sem]
 repeat' first|(refine cA (c1 _) flk ?_;simp (disch:=omega) only[go_sem])|(apply qa;exact rvk;simp only[go_sem])|with_reducible apply aiA|exact clz|fail
 refine bF ⟨VLe.sl_eq rfl (λi hi=> ?_),qi,trivial⟩;obtain rfl:i=0:=by simp at hi;omega
 rfl
theorem R2(s:Str)(h:JN)(hs:s.length<=64)(hw: ∀i,i<s.length->wi (ch s i)=true):ACalls Tryz.prog 378 [.nl,.str s] h (.tup [strs [s],.int .i64 0]) h:=by
 have c1:=λh=>Ud s h oma
 have c2: ∀h,ACalls Tryz.prog 386 [.nl,.str s] h (.int .i64 0) h:=λh=>by
  have d1:=λh=>RN h
  have d2:=λh=>Uh s h oma hw
  have k1:((64:Int)<s.length)=False:=eqf oma;refine acO HH ?_;simp (disch:=omega) only[Fh,go_sem]
  repeat' first|((first|refine cA (d1 _) ?_ ?_|refine cA (d2 _) ?_ ?_);exact flk;simp (disch:=omega) only[k1,go_sem])|exact tS|fail
 refine acO HG ?_;simp (disch:=omega) only[Fg,go_sem]
 repeat' first|((first|refine cA (c1 _) ?_ ?_|refine cA (c2 _) ?_ ?_);exact flk;simp (disch:=omega) only[go_sem])|exact tF|with_reducible apply aiA|exact clz|fail
theorem Pg(s:Str)(h:JN)(hs:s.length<=64)(hw: ∀i,i<s.length->wi (ch s i)=true):ACalls Tryz.prog 348 [.nl,.str s] h (.tup [.str s,.int .i64 0]) h:=by
 have c1:=λh=>R2 s h hs hw
 unfold strs at c1;refine acO HB ?_;simp (disch:=omega) only[E9,go_sem]
 repeat' first|(refine cA (c1 _) flk ?_;simp (disch:=omega) only[go_sem])|exact tS|with_reducible apply aiA|exact clz|fail
end RC
end
