import Derived.Test.YtgoandblgcjleaaGreatDoorK9
import Derived.Test.YtgoandblgcjleaaGreatDoorK3
import Derived.Test.YtgoandblgcjleaaGreatDoorK5
import Derived.Test.YtgoandblgcjleaaGreatDoorK8
import Derived.Test.YtgoandblgcjleaaGreatDoorProg
set_option linter.all false
set_option linter.unusedSimpArgs false
set_option linter.unusedVariables false
set_option linter.unusedSectionVars false
set_option maxRecDepth 100000
section
open Go Go.Proofs AF HY LN
namespace RC
set_option maxHeartbeats 4000000
def clT (x:Co) (k s:Nat):Option Str:=if (x.col.getD k []).getD s 0<0 then none else some ((x.tok.getD s []).getD ((x.col.getD k []).getD s 0).toNat default).text
def cmB (x:Co) (k:Nat):Bool:= !qZ (fun s=>decide (clT x k s=none)|| !decide (clT x k s=clT x k 0)) x.sig.length
def rdG (x:Co) (s f:Nat):Nat→List Str
 |0=> []
 |d+1=>rdG x s f d++(clT x (f+d) s).toList
theorem qdH (x:Co) (s f:Nat): ∀d,(rdG x s f d).length≤d:=by
 intro d
 induction d with
 |zero=>exact Nat.le_refl _
 |succ d ih=>
  unfold rdG
  rw [List.length_append]
  cases clT x (f+d) s with
  |none=>simp only [Option.toList_none,List.length_nil];omega
  |some w=>simp only [Option.toList_some,List.length_cons,List.length_nil];omega
def qiH (L:List Rd) (w:List Str):Int:=kZ (fun j=>decide (w=(L.getD j default).words)) L.length 0
def qeX (L:List Rd) (w:List Str) (s:Nat):List Rd:=if qiH L w<0 then L++ [⟨w,[(s:Int)]⟩] else L.set (qiH L w).toNat ⟨w,(L.getD (qiH L w).toNat default).src++ [(s:Int)]⟩
def qbR (x:Co) (f d:Nat):Nat→List Rd
 |0=> []
 |s+1=>qeX (qbR x f d s) (rdG x s f d) s
def qgF (x:Co) (f t:Nat):List Rd:=qbR x f (t-f) x.sig.length
theorem qns (L:List Rd) (w:List Str) (s:Nat):(qeX L w s).length≤L.length+1:=by
 unfold qeX
 split
 ·simp
 ·rw [List.length_set];omega
theorem qgH (x:Co) (f d:Nat): ∀s,(qbR x f d s).length≤s:=by
 intro s
 induction s with
 |zero=>exact Nat.le_refl _
 |succ s ih=>
  have:=qns (qbR x f d s) (rdG x s f d) s
  unfold qbR
  omega
def unB (x:Co) (beh:Int) (u:Un):Bool:= !(decide (u.frm≤beh)||(decide (u.frm<0)||(decide (u.to≤u.frm)||(decide ((x.col.length:Int)<u.to)|| !decide (u.rds=qgF x u.frm.toNat u.to.toNat)))))
def beH (l:List Un) (i:Nat):Int:=if i=0 then-1 else (l.getD (i-1) default).to
def qmM (x:Co) (l:List Un):Bool:= !qZ (fun i=> !unB x (beH l i) (l.getD i default)) l.length
def cvB (l:List Un) (k:Nat):Bool:=qZ (fun i=>decide ((l.getD i default).frm≤k)&&decide ((k:Int)<(l.getD i default).to)) l.length
def cvA (x:Co) (l:List Un):Bool:= !qZ (fun k=> !cvB l k&& !cmB x k) x.col.length
def rgB (x:Co) (l:List Un):Bool:=qmM x l&&cvA x l
def vaE (x:Co) (l:List Un):Int:=if coE x≠0 then 1 else if rgB x l=false then 20 else 0
def nxt (p:Nat→Bool):Nat→Nat→Nat
 |0,k=>k
 |d+1,k=>if p k=true then k else nxt p d (k+1)
theorem qdB (p:Nat→Bool): ∀d k,k≤nxt p d k∧nxt p d k≤k+d∧(∀j,k≤j→j<nxt p d k→p j=false)∧(nxt p d k<k+d→p (nxt p d k)=true):=by
 intro d
 induction d with
 |zero=>intro k;exact ⟨Nat.le_refl _,Nat.le_refl _,fun j h1 h2=>by unfold nxt at h2;omega,fun h=>by unfold nxt at h;omega⟩
 |succ d ih=>
  intro k
  unfold nxt
  split
  ·rename_i h
   exact ⟨Nat.le_refl _,by omega,fun j h1 h2=>by omega,fun _=>h⟩
  ·rename_i h
   obtain ⟨h1,h2,h3,h4⟩:=ih (k+1)
   refine ⟨by omega,by omega,fun j g1 g2=> ?_,fun g=>h4 (by omega)⟩
   by_cases e:j=k
   ·subst e;simpa using h
   ·exact h3 j (by omega) g2
def ku (p:Nat→Bool) (n:Nat):Nat→Nat→List (Nat×Nat)
 |0,_=> []
 |d+1,f=>if n≤f then [] else (if f<nxt p (n-f) f then [(f,nxt p (n-f) f)] else [])++ku p n d (nxt p (n-f) f+1)
def qfA (p:Nat→Bool) (n:Nat):List (Nat×Nat):=ku p n (n+1) 0
theorem qgM (p:Nat→Bool) (n:Nat): ∀d f,(∀r∈ku p n d f,f≤r.1∧r.1<r.2∧r.2≤n∧ ∀k,r.1≤k→k<r.2→p k=false)∧(n-f<d→ ∀k,f≤k→k<n→p k=false→ ∃r∈ku p n d f,r.1≤k∧k<r.2):=by
 intro d
 induction d with
 |zero=>intro f;exact ⟨fun r hr=>absurd hr List.not_mem_nil,fun h=>absurd h (Nat.not_lt_zero _)⟩
 |succ d ih=>
  intro f
  unfold ku
  split
  ·rename_i h
   exact ⟨fun r hr=>absurd hr List.not_mem_nil,fun _ k h1 h2=>by omega⟩
  ·rename_i h
   obtain ⟨h1,h2,h3,h4⟩:=qdB p (n-f) f
   obtain ⟨i1,i2⟩:=ih (nxt p (n-f) f+1)
   obtain ⟨t,ht⟩: ∃t,t=nxt p (n-f) f:=⟨_,rfl⟩
   rw [←ht]at h1 h2 h3 h4 i1 i2 ⊢
   refine ⟨fun r hr=> ?_,fun hd k k1 k2 k3=> ?_⟩
   ·rcases List.mem_append.1 hr with hr|hr
    ·split at hr
     ·rename_i hft
      rw [List.mem_singleton]at hr
      subst hr
      exact ⟨Nat.le_refl _,hft,by simp only;omega,h3⟩
     ·cases hr
    ·obtain ⟨g1,g2⟩:=i1 r hr
     exact ⟨by omega,g2⟩
   ·by_cases hk:k<t
    ·refine ⟨(f,t),List.mem_append_left _ ?_,k1,hk⟩
     rw [if_pos (by omega)]
     exact List.mem_singleton.2 rfl
    ·have hne:k≠t:=fun e=>by
      subst e
      rw [h4 (by omega)]at k3
      cases k3
     obtain ⟨r,hr,g⟩:=i2 (by omega) k (by omega) k2 k3
     exact ⟨r,List.mem_append_right _ hr,g⟩
theorem qtP {p:Nat→Bool} {n:Nat} {r:Nat×Nat} (hr:r∈qfA p n):r.1<r.2∧r.2≤n∧ ∀k,r.1≤k→k<r.2→p k=false:=((qgM p n (n+1) 0).1 r hr).2
theorem qpA {p:Nat→Bool} {n k:Nat} (hk:k<n) (hp:p k=false): ∃r∈qfA p n,r.1≤k∧k<r.2:=(qgM p n (n+1) 0).2 (by omega) k (Nat.zero_le _) hk hp
structure qBU (x:Co) (l:List Un):Prop where
 pw:l.Pairwise fun a b=>a.to<b.frm
 rg: ∀u∈l,0≤u.frm∧u.frm<u.to∧u.to≤x.col.length∧u.rds=qgF x u.frm.toNat u.to.toNat
theorem qt4 {x:Co} {beh:Int} {u:Un}:unB x beh u=true↔beh<u.frm∧0≤u.frm∧u.frm<u.to∧u.to≤x.col.length∧u.rds=qgF x u.frm.toNat u.to.toNat:=by
 unfold unB
 simp only [Bool.not_eq_true',Bool.or_eq_false_iff,decide_eq_false_iff_not,Bool.not_eq_false',decide_eq_true_eq]
 constructor
 ·rintro ⟨h1,h2,h3,h4,h5⟩;exact ⟨by omega,by omega,by omega,by omega,h5⟩
 ·rintro ⟨h1,h2,h3,h4,h5⟩;exact ⟨by omega,by omega,by omega,by omega,h5⟩
theorem qcI {x:Co} {l:List Un} (h:qmM x l=true):qBU x l:=by
 unfold qmM at h
 rw [Bool.not_eq_true',qn]at h
 have h1: ∀i,i<l.length→beH l i<(l.getD i default).frm∧0≤(l.getD i default).frm∧(l.getD i default).frm<(l.getD i default).to∧(l.getD i default).to≤x.col.length∧(l.getD i default).rds=qgF x (l.getD i default).frm.toNat (l.getD i default).to.toNat:=fun i hi=>
  qt4.1 (by simpa using h i hi)
 have g: ∀i (hi:i<l.length),l.getD i default=l[i]:=fun i hi=>by rw [gdqA,zD hi];rfl
 refine ⟨List.pairwise_iff_getElem.2 fun i j hi hj hij=> ?_,fun u hu=> ?_⟩
 ·have key: ∀d,i+1+d<l.length→(l.getD i default).to<(l.getD (i+1+d) default).frm:=by
   intro d
   induction d with
   |zero=>
    intro hd
    have:=(h1 (i+1) hd).1
    unfold beH at this
    rw [if_neg (by omega),Nat.add_sub_cancel]at this
    exact this
   |succ d ih=>
    intro hd
    have h2:=ih (by omega)
    have h3:=(h1 (i+1+d) (by omega)).2.2.1
    have h4:=(h1 (i+1+d+1) (by omega)).1
    unfold beH at h4
    rw [if_neg (by omega),Nat.add_sub_cancel]at h4
    rw [←Nat.add_assoc]
    omega
  have:=key (j-(i+1)) (by omega)
  rw [show i+1+(j-(i+1))=j by omega,g i hi,g j hj]at this
  exact this
 ·obtain ⟨i,hi,rfl⟩:=List.getElem_of_mem hu
  have:=(h1 i hi).2
  rw [g i hi]at this
  exact this
theorem qkg {l:List Un} {k:Nat}:cvB l k=true↔ ∃u∈l,u.frm≤k∧(k:Int)<u.to:=by
 unfold cvB
 rw [qF]
 constructor
 ·rintro ⟨i,hi,h⟩
  rw [gdqA,zD hi,Bool.and_eq_true,decide_eq_true_iff,decide_eq_true_iff]at h
  exact ⟨_,List.getElem_mem hi,h⟩
 ·rintro ⟨u,hu,h⟩
  obtain ⟨i,hi,rfl⟩:=List.getElem_of_mem hu
  refine ⟨i,hi,?_⟩
  rw [gdqA,zD hi,Bool.and_eq_true,decide_eq_true_iff,decide_eq_true_iff]
  exact h
def rnB (l:List Un) (r:Nat×Nat):Bool:=qZ (fun i=>decide ((l.getD i default).frm≤r.1)&&decide ((r.2:Int)≤(l.getD i default).to)) l.length
theorem ql0 {l:List Un} {r:Nat×Nat}:rnB l r=true↔ ∃u∈l,u.frm≤r.1∧(r.2:Int)≤u.to:=by
 unfold rnB
 rw [qF]
 constructor
 ·rintro ⟨i,hi,h⟩
  rw [gdqA,zD hi,Bool.and_eq_true,decide_eq_true_iff,decide_eq_true_iff]at h
  exact ⟨_,List.getElem_mem hi,h⟩
 ·rintro ⟨u,hu,h⟩
  obtain ⟨i,hi,rfl⟩:=List.getElem_of_mem hu
  refine ⟨i,hi,?_⟩
  rw [gdqA,zD hi,Bool.and_eq_true,decide_eq_true_iff,decide_eq_true_iff]
  exact h
theorem qoQ {α:Type} {L:List α} {R:α→α→Prop} (h:L.Pairwise R) {a b:α} (ha:a∈L) (hb:b∈L) (hne:a≠b):R a b∨R b a:=by
 induction L with
 |nil=>cases ha
 |cons c r ih=>
  obtain ⟨h1,h2⟩:=List.pairwise_cons.1 h
  rcases List.mem_cons.1 ha with ea|na
  ·rcases List.mem_cons.1 hb with eb|nb
   ·exact absurd (ea.trans eb.symm) hne
   ·rw [ea];exact .inl (h1 b nb)
  ·rcases List.mem_cons.1 hb with eb|nb
   ·rw [eb];exact .inr (h1 a na)
   ·exact ih h2 na nb
theorem qsm {x:Co} {l:List Un} (h:qmM x l=true):((qfA (cmB x) x.col.length).all (rnB l)=true)↔cvA x l=true:=by
 have ho:=qcI h
 unfold cvA
 rw [List.all_eq_true,Bool.not_eq_true',qn]
 constructor
 ·intro hr k hk
  cases hc:cmB x k with
  |true=>simp
  |false=>
   obtain ⟨r,hr1,r1,r2⟩:=qpA hk hc
   obtain ⟨u,hu,u1,u2⟩:=ql0.1 (hr r hr1)
   rw [qkg.2 ⟨u,hu,by omega,by omega⟩]
   rfl
 ·intro hk r hr
  obtain ⟨r1,r2,r3⟩:=qtP hr
  have cov: ∀k,r.1≤k→k<r.2→ ∃u∈l,u.frm≤(k:Int)∧(k:Int)<u.to:=fun k h1 h2=>by
   have h3:=hk k (by omega)
   rw [r3 k h1 h2,Bool.not_false,Bool.and_true,Bool.not_eq_false']at h3
   exact qkg.1 h3
  obtain ⟨u,hu,u1,u2⟩:=cov r.1 (Nat.le_refl _) r1
  refine ql0.2 ⟨u,hu,u1,?_⟩
  by_cases ht:(r.2:Int)≤u.to
  ·exact ht
  ·exfalso
   have hur:=ho.rg u hu
   obtain ⟨k,hk2⟩: ∃k:Nat,u.to=(k:Int):=⟨u.to.toNat,by omega⟩
   obtain ⟨v,hv,v1,v2⟩:=cov k (by omega) (by omega)
   have hvr:=ho.rg v hv
   by_cases e:u=v
   ·subst e;omega
   ·rcases qoQ ho.pw hu hv e with h1|h1
    ·omega
    ·omega
end RC
end
section
open Go Go.Proofs AF HY LN
namespace RC
set_option maxHeartbeats 4000000
def fnU (l:List Un) (c:Int):Int:=kZ (fun i=>decide ((l.getD i default).frm≤c)&&decide (c<(l.getD i default).to)) l.length 0
theorem qqW {l:List Un} {c:Int} {k:Nat} (h:fnU l c=k):k<l.length∧(l.getD k default).frm≤c∧c<(l.getD k default).to:=by
 unfold fnU at h
 rcases zU (fun i=>decide ((l.getD i default).frm≤c)&&decide (c<(l.getD i default).to)) l.length with ⟨i,h1,h2,_,h4⟩|⟨_,h2⟩
 ·rw [h4]at h
  have e:i=k:=by omega
  subst e
  rw [Bool.and_eq_true,decide_eq_true_iff,decide_eq_true_iff]at h2
  exact ⟨h1,h2⟩
 ·rw [h2]at h;omega
theorem qqX {l:List Un} {c:Int} (h:fnU l c<0) {i:Nat} (hi:i<l.length): ¬((l.getD i default).frm≤c∧c<(l.getD i default).to):=by
 unfold fnU at h
 rcases zU (fun i=>decide ((l.getD i default).frm≤c)&&decide (c<(l.getD i default).to)) l.length with ⟨j,_,_,_,h4⟩|⟨h1,_⟩
 ·rw [h4]at h;omega
 ·have:=h1 i hi
  rw [Bool.and_eq_false_iff,decide_eq_false_iff_not,decide_eq_false_iff_not]at this
  omega
theorem qxj {x:Co} {l:List Un} (h:qmM x l=true) {c:Int} {k:Nat} (hk:k<l.length) (h1:(l.getD k default).frm≤c) (h2:c<(l.getD k default).to):fnU l c=k:=by
 have ho:=qcI h
 rcases Int.lt_or_le (fnU l c) 0 with hn|hn
 ·exact absurd ⟨h1,h2⟩ (qqX hn hk)
 ·obtain ⟨j,hj⟩: ∃j:Nat,fnU l c=j:=⟨(fnU l c).toNat,by omega⟩
  obtain ⟨j1,j2,j3⟩:=qqW hj
  rw [hj]
  have g: ∀i (hi:i<l.length),l.getD i default=l[i]:=fun i hi=>by rw [gdqA,zD hi];rfl
  rw [g k hk]at h1 h2
  rw [g j j1]at j2 j3
  rcases Nat.lt_trichotomy j k with e|e|e
  ·have:=List.pairwise_iff_getElem.1 ho.pw j k j1 hk e;omega
  ·omega
  ·have:=List.pairwise_iff_getElem.1 ho.pw k j hk j1 e;omega
def wdE (x:Co) (l:List Un) (w bef:Wd) (first:Bool):Int:=
 if w.text= []∨64<w.text.length then 11 else if w.col<0∨(x.col.length:Int)≤w.col∨(first=false∧w.col<bef.col) then 19 else if w.unit< -1∨(l.length:Int)≤w.unit then 20 else
  if fnU l w.col≠w.unit then 20 else if w.dec< -1∨(w.unit<0∧w.dec≠ -1)∨(first=false∧0≤w.unit∧w.unit=bef.unit∧w.dec≠bef.dec) then 2 else 0
def qiP (b:List Wd) (i:Nat):Wd:=if i=0 then default else b.getD (i-1) default
def qnn (x:Co) (l:List Un) (b:List Wd) (i:Nat):Int:=wdE x l (b.getD i default) (qiP b i) (decide (i=0))
def cW (b:List Wd) (c:Int):Nat→Nat
 |0=>0
 |i+1=>cW b c i+if (b.getD i default).col=c then 1 else 0
def txA (x:Co) (c:Nat):Str:=((x.tok.getD 0 []).getD ((x.col.getD c []).getD 0 0).toNat default).text
def ccB (x:Co) (b:List Wd) (c:Nat):Bool:=decide (cW b c b.length=1)&&qZ (fun i=>decide ((b.getD i default).col=c)&&decide ((b.getD i default).text=txA x c)) b.length
def qzG (x:Co) (l:List Un) (b:List Wd) (c:Nat):Int:=if 0≤fnU l c then 0 else if ccB x b c=true then 0 else 9
def pvE (x:Co) (l:List Un) (b:List Wd):Int:=
 if vaE x l≠0 then vaE x l else if qbn (qnn x l b) 0 b.length≠0 then qbn (qnn x l b) 0 b.length else qbn (qzG x l b) 0 x.col.length
structure quB (x:Co) (l:List Un) (b:List Wd):Prop where
 co:coE x=0
 un:qmM x l=true
 cv:cvA x l=true
 tx: ∀i,i<b.length→(b.getD i default).text≠ []∧(b.getD i default).text.length≤64
 cl: ∀i,i<b.length→0≤(b.getD i default).col∧(b.getD i default).col<x.col.length
 ord: ∀i,i+1<b.length→(b.getD i default).col≤(b.getD (i+1) default).col
 un2: ∀i,i<b.length→fnU l (b.getD i default).col=(b.getD i default).unit
 cc: ∀c,c<x.col.length→fnU l c<0→ccB x b c=true
theorem qre {x:Co} {l:List Un} {b:List Wd} (h:pvE x l b=0):quB x l b:=by
 unfold pvE at h
 split at h
 ·rename_i h1;exact absurd h h1
 rename_i h1
 have h1:=Classical.not_not.1 h1
 split at h
 ·rename_i h2;exact absurd h h2
 rename_i h2
 have h2:=jL.1 (Classical.not_not.1 h2)
 have h3:=jL.1 h
 unfold vaE at h1
 split at h1
 ·cases h1
 rename_i g1
 split at h1
 ·cases h1
 rename_i g2
 have g2:rgB x l=true:=by simpa using g2
 unfold rgB at g2
 rw [Bool.and_eq_true]at g2
 have hw: ∀i,i<b.length→((b.getD i default).text≠ []∧(b.getD i default).text.length≤64)∧(0≤(b.getD i default).col∧(b.getD i default).col<x.col.length)∧(0<i→(qiP b i).col≤(b.getD i default).col)∧fnU l (b.getD i default).col=(b.getD i default).unit:=fun i hi=>by
  have:=h2 i hi
  unfold qnn wdE at this
  split at this
  ·cases this
  rename_i k1
  split at this
  ·cases this
  rename_i k2
  split at this
  ·cases this
  split at this
  ·cases this
  rename_i k4
  refine ⟨⟨fun e=>k1 (.inl e),Nat.le_of_not_lt fun e=>k1 (.inr e)⟩,⟨by omega,by omega⟩,fun h0=> ?_,Classical.not_not.1 k4⟩
  refine Int.not_lt.1 fun hc=>k2 (.inr (.inr ⟨decide_eq_false (by omega),hc⟩))
 refine ⟨Classical.not_not.1 g1,g2.1,g2.2,fun i hi=>(hw i hi).1,fun i hi=>(hw i hi).2.1,fun i hi=> ?_,fun i hi=>(hw i hi).2.2.2,fun c hc hn=> ?_⟩
 ·have:=(hw (i+1) hi).2.2.1 (by omega)
  unfold qiP at this
  rw [if_neg (by omega),Nat.add_sub_cancel]at this
  exact this
 ·have:=h3 c hc
  unfold qzG at this
  rw [if_neg (by omega)]at this
  split at this
  ·assumption
  ·cases this
end RC
end
section
open Go Go.Proofs AF HY LN
namespace RC
set_option maxHeartbeats 4000000
def cP (p:Nat→Bool):Nat→Nat
 |0=>0
 |i+1=>cP p i+if p i=true then 1 else 0
theorem qnL (p:Nat→Bool): ∀n,cP p n≤n:=by
 intro n
 induction n with
 |zero=>exact Nat.le_refl _
 |succ n ih=>unfold cP;split<;>omega
theorem qvO {p:Nat→Bool}: ∀ {n:Nat},(∀i,i<n→p i=true)→cP p n=n:=by
 intro n
 induction n with
 |zero=>intro _;rfl
 |succ n ih=>intro h;unfold cP;rw [ih fun i hi=>h i (by omega),if_pos (h n (by omega))]
theorem qvQ {p:Nat→Bool}: ∀ {n:Nat},(∀i,i+1<n→p (i+1)=true→p i=true)→ ∀i,i<n→(p i=true↔i<cP p n):=by
 intro n
 induction n with
 |zero=>intro _ i h;exact absurd h (Nat.not_lt_zero i)
 |succ n ih=>
  intro hm i hi
  have h0:=ih fun j hj=>hm j (by omega)
  unfold cP
  cases hn:p n with
  |true=>
   rw [if_pos rfl]
   have hall: ∀d,d≤n→p (n-d)=true:=by
    intro d
    induction d with
    |zero=>intro _;exact hn
    |succ d ihd=>
     intro hd
     refine hm (n-(d+1)) (by omega) ?_
     rw [show n-(d+1)+1=n-d by omega]
     exact ihd (by omega)
   have hp: ∀j,j≤n→p j=true:=fun j hj=>by
    have:=hall (n-j) (by omega)
    rwa [show n-(n-j)=j by omega]at this
   rw [qvO fun j hj=>hp j (by omega),hp i (by omega)]
   exact ⟨fun _=>by omega,fun _=>rfl⟩
  |false=>
   rw [if_neg (by simp),Nat.add_zero]
   by_cases e:i=n
   ·subst e
    have:=qnL p i
    rw [hn]
    exact ⟨fun h=>absurd h (by simp),fun h=>by omega⟩
   ·exact h0 i (by omega)
theorem qvP {q:Nat→Bool} {F G:Nat} (hFG:F≤G): ∀ {n:Nat},(∀i,i<n→(q i=true↔F≤i∧i<G))→cP q n=min n G-min n F:=by
 intro n
 induction n with
 |zero=>intro _;simp [cP]
 |succ n ih=>
  intro h
  unfold cP
  rw [ih fun i hi=>h i (by omega)]
  have hn:=h n (by omega)
  split
  ·rename_i hq
   have:=hn.1 hq
   omega
  ·rename_i hq
   have: ¬(F≤n∧n<G):=fun hc=>hq (hn.2 hc)
   omega
theorem qsZ {q:Nat→Bool} {F G n:Nat} (hGn:G≤n) (h: ∀i,i<n→(q i=true↔F≤i∧i<G)):kZ q n 0=if F<G then (F:Int) else-1:=by
 split
 ·rename_i hl
  exact qaq (by omega) (fun j hj=>by
   cases hq:q j with
   |false=>rfl
   |true=>have:=(h j (by omega)).1 hq;omega) ((h F (by omega)).2 ⟨Nat.le_refl _,hl⟩)
 ·rename_i hl
  refine qah fun j hj=> ?_
  cases hq:q j with
  |false=>rfl
  |true=>have:=(h j hj).1 hq;omega
def qe8 (q:Nat→Bool) (n f:Nat):Nat:=nxt (fun i=> !q i) (n-f) f
theorem qjC (q:Nat→Bool) {n f:Nat} (hf:f≤n):f≤qe8 q n f∧qe8 q n f≤n∧(∀j,f≤j→j<qe8 q n f→q j=true)∧(qe8 q n f<n→q (qe8 q n f)=false):=by
 obtain ⟨h1,h2,h3,h4⟩:=qdB (fun i=> !q i) (n-f) f
 refine ⟨h1,by unfold qe8;omega,fun j g1 g2=>by simpa using h3 j g1 g2,fun g=> ?_⟩
 have:=h4 (by unfold qe8 at g;omega)
 simpa [qe8] using this
def quG (q:Nat→Bool) (n f:Nat):Bool:=qZ (fun i=>decide (qe8 q n f≤i)&&q i) n
def qmq (q:Nat→Bool) (n:Nat):Int:=if kZ q n 0<0 then 6 else if quG q n (kZ q n 0).toNat=true then 10 else 0
def qyh (q:Nat→Bool) (n:Nat):Int:=if qmq q n=0 then kZ q n 0 else 0
def qyi (q:Nat→Bool) (n:Nat):Int:=if qmq q n=0 then (qe8 q n (kZ q n 0).toNat:Int) else 0
def inU (b:List Wd) (k:Int) (i:Nat):Bool:=decide ((b.getD i default).unit=k)
def bfU (b:List Wd) (c:Int) (i:Nat):Bool:=decide ((b.getD i default).col<c)
theorem qgO {x:Co} {l:List Un} {b:List Wd} (h:quB x l b) {k:Nat} (hk:k<l.length):
  ∃F G,F≤G∧G≤b.length∧(∀i,i<b.length→(bfU b (l.getD k default).frm i=true↔i<F))∧(∀i,i<b.length→(inU b k i=true↔F≤i∧i<G))∧cP (bfU b (l.getD k default).frm) b.length=F∧cP (inU b k) b.length=G-F:=by
 obtain ⟨u,hu⟩: ∃u,u=l.getD k default:=⟨_,rfl⟩
 have hur:=(qcI h.un).rg u (by rw [hu,gdqA,zD hk];exact List.getElem_mem hk)
 have hpre: ∀c,∀i,i<b.length→(bfU b c i=true↔i<cP (bfU b c) b.length):=fun c=>qvQ fun i hi hp=>by
  have:=h.ord i hi
  unfold bfU at hp ⊢
  rw [decide_eq_true_iff]at hp ⊢
  omega
 have h1:=hpre u.frm
 have h2:=hpre u.to
 have hq: ∀i,i<b.length→(inU b k i=true↔cP (bfU b u.frm) b.length≤i∧i<cP (bfU b u.to) b.length):=fun i hi=>by
  have g1:=h1 i hi
  have g2:=h2 i hi
  unfold bfU at g1 g2
  rw [decide_eq_true_iff]at g1 g2
  unfold inU
  rw [decide_eq_true_iff]
  constructor
  ·intro e
   obtain ⟨_,k2,k3⟩:=qqW (show fnU l (b.getD i default).col=k by rw [h.un2 i hi,e])
   rw [←hu]at k2 k3
   exact ⟨Nat.le_of_not_lt fun hc=>absurd (g1.2 hc) (by omega),g2.1 k3⟩
  ·rintro ⟨e1,e2⟩
   have k2:u.frm≤(b.getD i default).col:=Int.not_lt.1 fun hc=>by have:=g1.1 hc;exact absurd this (Nat.not_lt.2 e1)
   have k3:=g2.2 e2
   rw [←h.un2 i hi]
   exact qxj h.un hk (by rw [←hu];exact k2) (by rw [←hu];exact k3)
 have hle:cP (bfU b u.frm) b.length≤cP (bfU b u.to) b.length:=by
  rcases Nat.lt_or_ge (cP (bfU b u.to) b.length) (cP (bfU b u.frm) b.length)with hlt|hge
  ·have hi:cP (bfU b u.to) b.length<b.length:=by have:=qnL (bfU b u.frm) b.length;omega
   have g1:=(h1 _ hi).2 hlt
   have g2: ¬_:=fun hc=>absurd ((h2 _ hi).1 hc) (Nat.lt_irrefl _)
   unfold bfU at g1 g2
   rw [decide_eq_true_iff]at g1 g2
   omega
  ·exact hge
 have hGn:=qnL (bfU b u.to) b.length
 refine ⟨cP (bfU b u.frm) b.length,cP (bfU b u.to) b.length,hle,hGn,by rw [←hu];exact h1,hq,by rw [←hu],?_⟩
 rw [qvP hle hq]
 omega
end RC
end
section
open Go Go.Proofs AF HY LN
namespace RC
set_option maxHeartbeats 4000000
structure Va where
 words:List Str
 sigla:List Str
 deriving Inhabited
structure En where
 layer:Int
 frm:Int
 to:Int
 pos:Bool
 sup:List Str
 vars:List Va
 deriving Inhabited
def vaC (v:Va):List AV:= [strs v.words,strs v.sigla]
def qaS (vs:List Va):AV:= .sl vs.length fun i=>vaC (vs.getD i default)
def enC (e:En):List AV:= [.int .i64 e.layer,.int .i64 e.frm,.int .i64 e.to,.bool e.pos,strs e.sup,qaS e.vars]
def qaH (l:List En):AV:= .sl l.length fun i=>enC (l.getD i default)
theorem qkG (L:List Va):(qaS L).flag=true:=rfl
theorem qij (L:List Va):(qaS L).strip=qaS L:=rfl
theorem qoC {fz:Nat→Bool} {h:List AObj} {n:Nat} (L:List Va):frz fz h (n+1) (qaS L)=qaS L:=rfl
theorem qpv {fz:Nat→Bool} {h:List AObj} {n:Nat} (L:List Va):rei fz h (n+1) (qaS L)=qaS L:=rfl
theorem qkC (L:List En):(qaH L).flag=true:=rfl
theorem qif (L:List En):(qaH L).strip=qaH L:=rfl
theorem qoz {fz:Nat→Bool} {h:List AObj} {n:Nat} (L:List En):frz fz h (n+1) (qaH L)=qaH L:=rfl
theorem qps {fz:Nat→Bool} {h:List AObj} {n:Nat} (L:List En):rei fz h (n+1) (qaH L)=qaH L:=rfl
attribute [go_sem] qkG qij qoC qpv qkC qif qoz qps
theorem qsC (ws:List Str) (m:Nat) (k:Nat→Str) (h:List AObj) (h1:ws.length≤1000000000) (h2:m≤1000000000):
  ACalls Tryz.prog 53 [strs ws,.sl m (fun j=> [.str (k j)])] h (.bool (decide (ws.length=m∧ ∀i,i<ws.length→ws.getD i []=k i))) h:=by
 unfold strs
 have:=qBB qz2 ws.length m (fun j=> .s (ws.getD j [])) (fun j=> .s (k j)) h (fun _ _ _=>rfl) (by omega) (by omega)
 simpa only [At.v,At.s.injEq] using this
theorem qAE (ws:List Str) (m:Nat) (k:Nat→Str) (h:List AObj) (h1:ws.length≤1000000000) (h2:m≤1000000000):
  ACalls Tryz.prog 139 [strs ws,.sl m (fun j=> [.str (k j)])] h (.bool (decide (ws.length=m∧ ∀i,i<ws.length→ws.getD i []=k i))) h:=by
 have c22:=fun h=>qsC ws m k h h1 h2
 refine acO qwo ?_
 simp (disch:=omega) only [qu5,List.replicate,go_sem]
 repeat' first
  |((first|refine cA (c22 _) ?_ ?_|refine cG (fun e=>c22 _) ?_ ?_|refine cU (fun _=>c22 _) ?_ ?_);(next=>exact flk);simp (disch:=omega) only [go_sem])
  |((first|apply qd|apply qb);exact rvk;simp only [go_sem];first|exact VLe.refl _|apply qe|apply qa|apply qf|skip)
  |with_reducible first|apply And.intro|intro _
 all_goals try exact clz
theorem jk {α:Type} [Inhabited α] {a b:List α} (d:α):a=b↔a.length=b.length∧ ∀i,i<a.length→a.getD i d=b.getD i d:=by
 constructor
 ·rintro rfl;exact ⟨rfl,fun _ _=>rfl⟩
 ·rintro ⟨h1,h2⟩
  apply List.ext_getElem h1
  intro i h3 h4
  have:=h2 i h3
  rw [gdqA,gdqA,zD h3,zD h4]at this
  exact this
def kR (t:List Str) (f g:Nat):List Str:=(t.drop f).take (g-f)
theorem qdP {t:List Str} {f g:Nat} (h1:f≤g) (h2:g≤t.length):(kR t f g).length=g-f:=by unfold kR;simp;omega
theorem qgQ {t:List Str} {f g i:Nat} (h1:f≤g) (h2:g≤t.length) (hi:i<g-f):(kR t f g).getD i []=t.getD (f+i) []:=by
 unfold kR
 rw [gdqA,List.getElem?_take,if_pos hi,List.getElem?_drop,←gdqA]
theorem qpB {ws t:List Str} {f g:Nat} (h1:f≤g) (h2:g≤t.length):decide (ws.length=g-f∧ ∀i,i<ws.length→ws.getD i []=t.getD (f+i) [])=decide (ws=kR t f g):=by
 refine decide_eq_decide.2 ?_
 rw [jk (b:=kR t f g) ([]:Str),qdP h1 h2]
 constructor
 ·rintro ⟨p,q⟩;exact ⟨p,fun i hi=>by rw [q i hi,qgQ h1 h2 (by omega)]⟩
 ·rintro ⟨p,q⟩;exact ⟨p,fun i hi=>by rw [q i hi,qgQ h1 h2 (by omega)]⟩
def qqj (t:List Str) (e:En) (i:Nat):Int:=
 if qng (e.vars.getD i default).words≠0 then 11 else if (e.vars.getD i default).words=kR t e.frm.toNat e.to.toNat then 9 else
  if qZ (fun j=>decide ((e.vars.getD i default).words=(e.vars.getD j default).words)) i=true then 7 else if (e.vars.getD i default).sigla.length=0 then 5 else 0
def cnt (names:List Str) (gs:List Gr) (e:En):Nat→List Int
 |0=>qqt (List.replicate 32 0) (kW names gs e.sup)
 |i+1=>qqt (cnt names gs e i) (kW names gs (e.vars.getD i default).sigla)
def qt3 (C:List Int):Bool:=qZ (fun i=>decide (1<C.getD i 0)) C.length
def quM (t:List Str) (e:En):Prop:=e.layer<0∨16≤e.layer∨e.frm<0∨e.to<e.frm∨(t.length:Int)<e.to
instance (t:List Str) (e:En):Decidable (quM t e):=by unfold quM;infer_instance
def qzH (names:List Str) (gs:List Gr) (t:List Str) (e:En):Int:=
 if sgE names gs≠0 then 1 else if 4096<t.length then 4 else if qng t≠0 then 11 else if quM t e then 2 else
  if 0<e.sup.length∧e.pos=false then 1 else if e.vars.length=0 then 5 else
   if qbn (qqj t e) 0 e.vars.length≠0 then qbn (qqj t e) 0 e.vars.length else
    if qbm names gs e.sup≠0 then qbm names gs e.sup else
     if qbn (fun i=>qbm names gs (e.vars.getD i default).sigla) 0 e.vars.length≠0 then qbn (fun i=>qbm names gs (e.vars.getD i default).sigla) 0 e.vars.length else
      if qt3 (cnt names gs e e.vars.length)=true then 17 else 0
structure TSz (t:List Str):Prop where
 n:t.length≤1000000000
 s: ∀j,(t.getD j []).length≤1000000000
structure ESz (e:En):Prop where
 sup:e.sup.length≤1000000000
 vs:e.vars.length≤1000000000
 w: ∀i,TSz (e.vars.getD i default).words
 sg: ∀i,(e.vars.getD i default).sigla.length≤1000000000
end RC
end
section
open Go Go.Proofs AF HY LN
namespace RC
set_option maxHeartbeats 8000000
end RC
end
section
open Go Go.Proofs AF HY LN
namespace RC
end RC
end
section
open Go Go.Proofs AF HY LN
namespace RC
theorem qc9 {p q:Nat→Bool} {n:Nat} (h: ∀k,k<n→p k=q k):jA p n=jA q n:=by
 unfold jA
 congr 1
 refine List.filter_congr fun k hk=>h k (List.mem_range.1 hk)
end RC
end
section
open Go Go.Proofs AF HY LN
namespace RC
set_option maxHeartbeats 8000000
end RC
end
section
open Go Go.Proofs AF HY LN
namespace RC
set_option maxHeartbeats 4000000
end RC
end
section
open Go Go.Proofs AF HY LN
namespace RC
set_option maxHeartbeats 4000000
theorem qb7 {p:Nat→Bool} {n:Nat} {x:Int}:x∈jA p n↔ ∃k:Nat,k<n∧p k=true∧x=k:=by
 unfold jA
 constructor
 ·intro h
  obtain ⟨k,hk,rfl⟩:=List.mem_map.1 h
  obtain ⟨h1,h2⟩:=List.mem_filter.1 hk
  exact ⟨k,List.mem_range.1 h1,h2,rfl⟩
 ·rintro ⟨k,h1,h2,rfl⟩
  exact List.mem_map.2 ⟨k,List.mem_filter.2 ⟨List.mem_range.2 h1,h2⟩,rfl⟩
end RC
end
section
open Go Go.Proofs AF HY LN
namespace RC
set_option maxHeartbeats 4000000
theorem smw (ws:List Str) (m:Nat) (k:Nat→Str) (h:List AObj) (h1:ws.length≤1000000000) (h2:m≤1000000000):
  ACalls Tryz.prog 103 [strs ws,.sl m (fun j=> [.str (k j)])] h (.bool (decide (ws.length=m∧ ∀i,i<ws.length→ws.getD i []=k i))) h:=by
 obtain ⟨R,hR⟩: ∃R,R=decide (ws.length=m∧ ∀i,i<ws.length→ws.getD i []=k i):=⟨_,rfl⟩
 rw [←hR]
 by_cases g:ws.length=m
 ·have k0:((ws.length:Int)=m)=True:=eq_true (by omega)
  refine acO qqC ?_
  simp (disch:=omega) only [qrA,List.replicate,strs,k0,go_sem]
  repeat' first
   |((first|apply qd|apply qb);exact rvk;simp only [go_sem];first|exact VLe.refl _|apply qe|apply qa|apply qf|skip)
   |with_reducible first|apply And.intro|intro _
  all_goals try exact clz
  refine qt (T:=fun i:Nat=>qU 26 [(0,strs ws),(1,.sl m (fun j=> [.str (k j)])),(5,.int .i64 i)]) (H:=fun _=>h) (inv:=fun i=>i≤ws.length∧ ∀j,j<i→ws.getD j []=k j) (m:=fun i=>ws.length-i) 0 ⟨Nat.zero_le _,fun j hj=>by omega⟩ (Wk.temps ?_) ?_
  ·(simp only [strs,List.replicate,go_sem,qk,qi,qg,qj];try (repeat' first|(with_reducible apply And.intro)|(apply qe;omega)|(apply qa;rfl)|exact VLe.refl _))
  rintro i ⟨i1,i2⟩ K hK
  by_cases hi:i<ws.length
  ·have k1:((i:Int)<ws.length)=True:=eq_true (by omega)
   have k3:((i:Int)<m)=True:=eq_true (by omega)
   obtain ⟨x,hx⟩: ∃x,x=ws.getD i []:=⟨_,rfl⟩
   have ex:=hx.symm
   by_cases e:x=k i
   ·have k2:(x=k i)=True:=eq_true e
    simp (disch:=omega) only [List.replicate,strs,k1,k2,k3,ex,go_sem]
    repeat' first
     |((first|apply qd|apply qb);exact rvk;simp only [go_sem];first|exact VLe.refl _|apply qe|apply qa|apply qf|skip)
     |with_reducible first|apply And.intro|intro _
    all_goals try exact clz
    refine hK _ _ (i+1) ⟨hi,fun j hj=> ?_⟩ (by omega) (Wk.temps ?_)
    ·by_cases e':j=i
     ·subst e';rw [ex];exact e
     ·exact i2 j (by omega)
    ·(simp only [strs,List.replicate,go_sem,qk,qi,qg,qj];try (repeat' first|(with_reducible apply And.intro)|(apply qe;omega)|(apply qa;rfl)|exact VLe.refl _))
   ·have k2:(x=k i)=False:=eq_false e
    have hV:R=false:=by rw [hR];exact decide_eq_false fun hc=>e (by rw [←ex];exact hc.2 i hi)
    rw [hV]
    simp (disch:=omega) only [List.replicate,strs,k1,k2,k3,ex,go_sem]
    repeat' first
     |((first|apply qd|apply qb);exact rvk;simp only [go_sem];first|exact VLe.refl _|apply qe|apply qa|apply qf|skip)
     |with_reducible first|apply And.intro|intro _
    all_goals try exact clz
  ·have k1:((i:Int)<ws.length)=False:=eq_false (by omega)
   have hV:R=true:=by rw [hR];exact decide_eq_true ⟨g,fun j hj=>i2 j (by omega)⟩
   rw [hV]
   simp (disch:=omega) only [List.replicate,strs,k1,go_sem]
   repeat' first
    |((first|apply qd|apply qb);exact rvk;simp only [go_sem];first|exact VLe.refl _|apply qe|apply qa|apply qf|skip)
    |with_reducible first|apply And.intro|intro _
   all_goals try exact clz
 ·have k0:((ws.length:Int)=m)=False:=eq_false (by omega)
  have hV:R=false:=by rw [hR];exact decide_eq_false fun hc=>g hc.1
  rw [hV]
  refine acO qqC ?_
  simp (disch:=omega) only [qrA,List.replicate,strs,k0,go_sem]
  repeat' first
   |((first|apply qd|apply qb);exact rvk;simp only [go_sem];first|exact VLe.refl _|apply qe|apply qa|apply qf|skip)
   |with_reducible first|apply And.intro|intro _
  all_goals try exact clz
theorem qAJ (a b:List Str) (h:List AObj) (h1:a.length≤1000000000) (h2:b.length≤1000000000):
  ACalls Tryz.prog 103 [strs a,strs b] h (.bool (decide (a=b))) h:=by
 have c:=smw a b.length (fun j=>b.getD j []) h h1 h2
 have e:decide (a.length=b.length∧ ∀i,i<a.length→a.getD i []=b.getD i [])=decide (a=b):=decide_eq_decide.2 (jk ([]:Str)).symm
 rw [e]at c
 exact c
end RC
end
section
open Go Go.Proofs AF HY LN
namespace RC
def qiJ (names:List Str) (gs:List Gr) (e:En):Nat→List Int×Bool
 |0=>(kW names gs e.sup,false)
 |i+1=>(jA (fun k=>decide ((k:Int)∈(qiJ names gs e i).1)||decide ((k:Int)∈kW names gs (e.vars.getD i default).sigla)) 64,(qiJ names gs e i).2||(qiJ names gs e i).1.any fun x=>decide (x∈kW names gs (e.vars.getD i default).sigla))
theorem qnp (names:List Str) (gs:List Gr) (e:En) (i:Nat):qiJ names gs e (i+1)=(jA (fun k=>decide ((k:Int)∈(qiJ names gs e i).1)||decide ((k:Int)∈kW names gs (e.vars.getD i default).sigla)) 64,(qiJ names gs e i).2||(qiJ names gs e i).1.any fun x=>decide (x∈kW names gs (e.vars.getD i default).sigla)):=rfl
theorem qnG (L:List Int): ∀(C:List Int) (j:Nat),L.Nodup→(∀x∈L,0≤x∧x<C.length)→j<C.length→(qqt C L).getD j 0=C.getD j 0+if (j:Int)∈L then 1 else 0:=by
 induction L with
 |nil=>intro C j _ _ _;simp [qqt]
 |cons n L ih=>
  intro C j hn hL hj
  obtain ⟨h1,h2⟩:=List.nodup_cons.1 hn
  have hb:=hL n (by simp)
  show (qqt (C.set n.toNat (C.getD n.toNat 0+1)) L).getD j 0=_
  rw [ih _ j h2 (fun x hx=>by rw [List.length_set];exact hL x (by simp [hx])) (by rw [List.length_set];exact hj)]
  by_cases e:(j:Int)=n
  ·have e2:n.toNat=j:=by omega
   have e3: ¬(j:Int)∈L:=by rw [e];exact h1
   rw [if_neg e3,if_pos (by rw [e];simp),e2]
   have:(C.set j (C.getD j 0+1)).getD j 0=C.getD j 0+1:=by
    rw [gdqA,List.getElem?_set_self hj];rfl
   rw [this]
   omega
  ·have e2: ¬n.toNat=j:=by omega
   have:(C.set n.toNat (C.getD n.toNat 0+1)).getD j 0=C.getD j 0:=by
    rw [gdqA,List.getElem?_set_ne e2,←gdqA]
   rw [this]
   congr 1
   simp [e]
theorem qas (p:Nat→Bool) (n:Nat):(jA p n).Nodup:=by
 unfold jA
 rw [List.Nodup,List.pairwise_map]
 refine List.Pairwise.imp ?_ (List.Pairwise.filter _ List.nodup_range)
 intro a b hab hc
 exact hab (by have hx:(a:Int)=(b:Int):=hc;omega)
theorem qc5 (names:List Str) (gs:List Gr) (sg:List Str):(kW names gs sg).Nodup:=by
 unfold kW
 split
 ·exact qas _ _
 ·exact List.nodup_nil
structure qzg (A:List Int) (B:Bool) (C:List Int):Prop where
 len:C.length=32
 rng: ∀x∈A,0≤x∧x<32
 mem: ∀k:Nat,k<32→((k:Int)∈A↔1≤C.getD k 0)
 nn: ∀k:Nat,k<32→0≤C.getD k 0
 tw:B=true↔ ∃k:Nat,k<32∧1<C.getD k 0
theorem qgu {A O A' C:List Int} {B:Bool} (h:qzg A B C) (ho:O.Nodup) (hr: ∀x∈O,0≤x∧x<32) (hA: ∀x,x∈A'↔x∈A∨x∈O):qzg A' (B||A.any fun x=>decide (x∈O)) (qqt C O):=by
 have hl:=h.len
 have hg:=fun (k:Nat) (hk:k<32)=>qnG O C k ho (fun x hx=>by have:=hr x hx;omega) (by omega)
 refine ⟨by rw [qnH,hl],fun x hx=> ?_,fun k hk=> ?_,fun k hk=> ?_,?_⟩
 ·rcases (hA x).1 hx with hx|hx
  ·exact h.rng x hx
  ·exact hr x hx
 ·rw [hA,h.mem k hk,hg k hk]
  have:=h.nn k hk
  by_cases e:(k:Int)∈O
  ·rw [if_pos e]
   exact ⟨fun _=>by omega,fun _=> .inr e⟩
  ·rw [if_neg e]
   constructor
   ·rintro (h1|h1)
    ·omega
    ·exact absurd h1 e
   ·intro h1;exact .inl (by omega)
 ·rw [hg k hk]
  have:=h.nn k hk
  split<;>omega
 ·rw [Bool.or_eq_true,h.tw,List.any_eq_true]
  constructor
  ·rintro (⟨k,hk,h1⟩|⟨x,hx,h1⟩)
   ·refine ⟨k,hk,?_⟩
    rw [hg k hk]
    split<;>omega
   ·have h1:=of_decide_eq_true h1
    have hx2:=h.rng x hx
    have e:((x.toNat:Nat):Int)=x:=by omega
    refine ⟨x.toNat,by omega,?_⟩
    rw [hg _ (by omega),e,if_pos h1]
    have:=(h.mem x.toNat (by omega)).1 (by rw [e];exact hx)
    omega
  ·rintro ⟨k,hk,h1⟩
   rw [hg k hk]at h1
   by_cases e:(k:Int)∈O
   ·rw [if_pos e]at h1
    exact .inr ⟨(k:Int),(h.mem k hk).2 (by omega),decide_eq_true e⟩
   ·rw [if_neg e]at h1
    exact .inl ⟨k,hk,by omega⟩
theorem qs6:qzg [] false (List.replicate 32 0):=by
 have g: ∀k:Nat,k<32→(List.replicate 32 (0:Int)).getD k 0=0:=fun k hk=>by
  rw [gdqA,List.getElem?_replicate,if_pos hk];rfl
 refine ⟨by simp,fun x hx=>by simp at hx,fun k hk=> ?_,fun k hk=> ?_,?_⟩
 ·rw [g k hk];simp
 ·rw [g k hk];omega
 ·constructor
  ·intro h;cases h
  ·rintro ⟨k,hk,h1⟩;rw [g k hk]at h1;omega
theorem qrn (names:List Str) (gs:List Gr) (e:En): ∀i,qzg (qiJ names gs e i).1 (qiJ names gs e i).2 (cnt names gs e i):=by
 have hO:=fun sg=>kN (@qoi names gs sg)
 intro i
 induction i with
 |zero=>
  have:=qgu (A':=kW names gs e.sup) qs6 (qc5 names gs e.sup) (hO e.sup) (fun x=>by simp)
  exact this
 |succ i ih=>
  rw [qnp]
  unfold cnt
  refine qgu ih (qc5 _ _ _) (hO _) (fun x=> ?_)
  rw [qb7]
  constructor
  ·rintro ⟨k,hk,h1,rfl⟩
   simpa using h1
  ·intro hx
   have hb:0≤x∧x<32:=by
    rcases hx with hx|hx
    ·exact ih.rng x hx
    ·exact hO _ x hx
   have e:((x.toNat:Nat):Int)=x:=by omega
   refine ⟨x.toNat,by omega,?_,e.symm⟩
   simp only [e]
   simpa using hx
theorem qd0 (names:List Str) (gs:List Gr) (e:En) (i:Nat):qt3 (cnt names gs e i)=(qiJ names gs e i).2:=by
 have h:=qrn names gs e i
 unfold qt3
 rw [h.len,Bool.eq_iff_iff,h.tw,qF]
 simp only [decide_eq_true_eq]
end RC
end
section
open Go Go.Proofs AF HY LN
namespace RC
set_option maxHeartbeats 16000000
end RC
end
section
open Go Go.Proofs AF HY LN
namespace RC
set_option maxHeartbeats 8000000
def inV (names:List Str) (gs:List Gr) (e:En) (src:Int) (i:Nat):Bool:=decide (src∈kW names gs (e.vars.getD i default).sigla)
def vIx (names:List Str) (gs:List Gr) (e:En) (src:Int):Int:=kZ (inV names gs e src) e.vars.length 0
def qgd (a b:En):Bool:=decide (a.frm<b.frm)||decide (a.frm=b.frm)&&decide (a.to<b.to)
end RC
end
section
open Go Go.Proofs AF
def qs4:List Nat:= [132,109,174,220,68]
def qvf:C:=
 ((C.ops [MC 2 (.bool false)]).seq ((C.ops [MV 3 0,MV 4 0,BI 5 .neq 3 4,MV 2 5]).seq
 C.ret))
theorem qwA:qN Tryz.prog 195 6 0 [RV.tmp 2] qvf:=fi Tryz.f195 [] qs4 [] (by kernel_rfl) (by kernel_rfl) (by kernel_rfl) (by kernel_rfl)
end
section
open Go Go.Proofs AF HY LN
namespace RC
set_option maxHeartbeats 8000000
def qqy (a b:Int):Int:=if a<b then-1 else if b<a then 1 else 0
theorem qBH (a:Int) (h:List AObj):ACalls Tryz.prog 195 [.int .i64 a] h (.bool false) h:=by
 have k:(a=a)=True:=eq_true rfl
 refine acO qwA ?_
 simp (disch:=omega) only [qvf,List.replicate,k,go_sem]
 repeat' first
  |((first|apply qd|apply qb);exact rvk;simp only [go_sem];first|exact VLe.refl _|apply qe|apply qa|apply qf|skip)
  |with_reducible first|apply And.intro|intro _
 all_goals try exact clz
theorem qCc (a b:Int) (h:List AObj):ACalls Tryz.prog 141 [.int .i64 a,.int .i64 b] h (.int .i64 (qqy a b)) h:=by
 have c1:=fun h=>qBH a h
 have c2:=fun h=>qBH b h
 unfold qqy
 by_cases g1:a<b
 ·have k1:(a<b)=True:=eq_true g1
  rw [if_pos g1]
  refine acO qkL ?_
  simp (disch:=omega) only [qnI,List.replicate,k1,go_sem]
  repeat' first
   |((first|refine cA (c1 _) ?_ ?_|refine cG (fun e=>c1 _) ?_ ?_|refine cA (c2 _) ?_ ?_|refine cG (fun e=>c2 _) ?_ ?_|refine cU (fun _=>c1 _) ?_ ?_|refine cU (fun _=>c2 _) ?_ ?_);(next=>exact flk);simp (disch:=omega) only [k1,go_sem])
   |((first|apply qd|apply qb);exact rvk;simp only [go_sem];first|exact VLe.refl _|apply qe|apply qa|apply qf|skip)
   |with_reducible first|apply And.intro|intro _
  all_goals try exact clz
 have k1:(a<b)=False:=eq_false g1
 rw [if_neg g1]
 by_cases g2:b<a
 ·have k2:(b<a)=True:=eq_true g2
  rw [if_pos g2]
  refine acO qkL ?_
  simp (disch:=omega) only [qnI,List.replicate,k1,k2,go_sem]
  repeat' first
   |((first|refine cA (c1 _) ?_ ?_|refine cG (fun e=>c1 _) ?_ ?_|refine cA (c2 _) ?_ ?_|refine cG (fun e=>c2 _) ?_ ?_|refine cU (fun _=>c1 _) ?_ ?_|refine cU (fun _=>c2 _) ?_ ?_);(next=>exact flk);simp (disch:=omega) only [k1,k2,go_sem])
   |((first|apply qd|apply qb);exact rvk;simp only [go_sem];first|exact VLe.refl _|apply qe|apply qa|apply qf|skip)
   |with_reducible first|apply And.intro|intro _
  all_goals try exact clz
 ·have k2:(b<a)=False:=eq_false g2
  rw [if_neg g2]
  refine acO qkL ?_
  simp (disch:=omega) only [qnI,List.replicate,k1,k2,go_sem]
  repeat' first
   |((first|refine cA (c1 _) ?_ ?_|refine cG (fun e=>c1 _) ?_ ?_|refine cA (c2 _) ?_ ?_|refine cG (fun e=>c2 _) ?_ ?_|refine cU (fun _=>c1 _) ?_ ?_|refine cU (fun _=>c2 _) ?_ ?_);(next=>exact flk);simp (disch:=omega) only [k1,k2,go_sem])
   |((first|apply qd|apply qb);exact rvk;simp only [go_sem];first|exact VLe.refl _|apply qe|apply qa|apply qf|skip)
   |with_reducible first|apply And.intro|intro _
  all_goals try exact clz
end RC
end
section
namespace RC
variable {α : Type}
def qcO (lt:α→α→Bool) (x:α):List α→List α
 | []=> [x]
 |y::r=>if lt x y=true then y::qcO lt x r else x::y::r
def qeN (lt:α→α→Bool):List α→List α→List α
 |acc,[]=>acc
 |acc,x::r=>qeN lt (qcO lt x acc) r
def quQ (lt:α→α→Bool):Prop:= ∀a b c,lt a b=false→lt b c=false→lt a c=false
def Asy (lt:α→α→Bool):Prop:= ∀a b,lt a b=true→lt b a=false
def quE (lt:α→α→Bool) (l:List α):Prop:=l.Pairwise fun a b=>lt a b=false
theorem qoJ {lt:α→α→Bool} {x:α}: ∀ {l:List α} {z:α},z∈qcO lt x l↔z=x∨z∈l:=by
 intro l
 induction l with
 |nil=>intro z;simp [qcO]
 |cons y r ih=>
  intro z
  unfold qcO
  split
  ·simp only [List.mem_cons,ih]
   constructor
   ·rintro (h|h|h)
    ·exact .inr (.inl h)
    ·exact .inl h
    ·exact .inr (.inr h)
   ·rintro (h|h|h)
    ·exact .inr (.inl h)
    ·exact .inl h
    ·exact .inr (.inr h)
  ·simp
theorem qcw {lt:α→α→Bool} (hn:quQ lt) (ha:Asy lt) {x:α}: ∀ {l:List α},quE lt l→quE lt (qcO lt x l):=by
 intro l
 induction l with
 |nil=>intro _;exact List.pairwise_singleton _ _
 |cons y r ih=>
  intro h
  obtain ⟨h1,h2⟩:=List.pairwise_cons.1 h
  unfold qcO
  by_cases g:lt x y=true
  ·rw [if_pos g]
   refine List.pairwise_cons.2 ⟨fun z hz=> ?_,ih h2⟩
   rcases qoJ.1 hz with rfl|hz
   ·exact ha _ _ g
   ·exact h1 z hz
  ·rw [if_neg g]
   have g:lt x y=false:=by simpa using g
   refine List.pairwise_cons.2 ⟨fun z hz=> ?_,h⟩
   rcases List.mem_cons.1 hz with rfl|hz
   ·exact g
   ·exact hn _ _ _ g (h1 z hz)
theorem qk1 {lt:α→α→Bool} {x:α} {l:List α} (h: ∀z∈l,lt x z=false):qcO lt x l=x::l:=by
 cases l with
 |nil=>rfl
 |cons y r=>
  unfold qcO
  rw [if_neg (by rw [h y (by simp)];simp)]
theorem qfm {lt:α→α→Bool} (hn:quQ lt) (p:α→Bool) (x:α): ∀ {l:List α},quE lt l→(qcO lt x l).filter p=if p x=true then qcO lt x (l.filter p) else l.filter p:=by
 intro l
 induction l with
 |nil=>intro _;unfold qcO;by_cases h:p x=true<;>simp [h,qcO]
 |cons y r ih=>
  intro h
  obtain ⟨h1,h2⟩:=List.pairwise_cons.1 h
  by_cases g:lt x y=true
  ·have e:qcO lt x (y::r)=y::qcO lt x r:=by rw [qcO,if_pos g]
   rw [e,List.filter_cons,List.filter_cons,ih h2]
   by_cases hy:p y=true
   ·rw [if_pos hy,if_pos hy]
    by_cases hx:p x=true
    ·rw [if_pos hx,if_pos hx,qcO,if_pos g]
    ·rw [if_neg hx,if_neg hx]
   ·rw [if_neg hy,if_neg hy]
  ·have e:qcO lt x (y::r)=x::y::r:=by rw [qcO,if_neg g]
   have g:lt x y=false:=by simpa using g
   rw [e]
   by_cases hx:p x=true
   ·rw [if_pos hx,List.filter_cons,if_pos hx,qk1]
    intro z hz
    rcases List.mem_cons.1 (List.mem_filter.1 hz).1 with rfl|hz
    ·exact g
    ·exact hn _ _ _ g (h1 z hz)
   ·rw [if_neg hx,List.filter_cons,if_neg hx]
theorem qef {lt:α→α→Bool} (hn:quQ lt) (ha:Asy lt) (p:α→Bool): ∀(l acc:List α),quE lt acc→(qeN lt acc l).filter p=qeN lt (acc.filter p) (l.filter p):=by
 intro l
 induction l with
 |nil=>intro acc _;rfl
 |cons x r ih=>
  intro acc h
  rw [qeN,ih _ (qcw hn ha h),qfm hn p x h,List.filter_cons]
  by_cases hx:p x=true
  ·rw [if_pos hx,if_pos hx,qeN]
  ·rw [if_neg hx,if_neg hx]
theorem qeO {lt:α→α→Bool} (hn:quQ lt) (ha:Asy lt): ∀(l acc:List α),quE lt acc→quE lt (qeN lt acc l):=by
 intro l
 induction l with
 |nil=>intro acc h;exact h
 |cons x r ih=>intro acc h;exact ih _ (qcw hn ha h)
end RC
end
section
namespace RC
variable {α : Type}
end RC
end
section
open Go Go.Proofs AF HY LN
namespace RC
set_option maxHeartbeats 8000000
end RC
end
section
open Go Go.Proofs AF HY LN
namespace RC
set_option maxHeartbeats 8000000
end RC
end
section
open Go Go.Proofs AF HY LN
namespace RC
set_option maxHeartbeats 4000000
theorem qaT {a b:En}:qgd a b=true↔a.frm<b.frm∨a.frm=b.frm∧a.to<b.to:=by
 unfold qgd
 simp [Bool.or_eq_true,Bool.and_eq_true]
theorem qbk {a b:En}:qgd a b=false↔b.frm<a.frm∨a.frm=b.frm∧b.to≤a.to:=by
 have:= @qaT a b
 cases h:qgd a b with
 |true=>rw [h]at this;simp only [true_iff]at this;simp only [Bool.true_eq_false,false_iff];omega
 |false=>rw [h]at this;simp only [Bool.false_eq_true,false_iff]at this;simp only [true_iff];omega
theorem qgf:quQ qgd:=by
 intro a b c h1 h2
 rw [qbk]at*
 omega
theorem qge:Asy qgd:=by
 intro a b h
 rw [qaT]at h
 rw [qbk]
 omega
def quO (l:List En):List En:=(qeN qgd [] l).reverse
def qCn (names:List Str) (gs:List Gr) (src:Int) (e:En):Bool:=decide (0≤vIx names gs e src)
def ofE (names:List Str) (gs:List Gr) (l:List En) (src:Int):List En:=(quO l).filter (qCn names gs src)
theorem qk2 {α:Type} {lt:α→α→Bool} {x:α}: ∀l:List α,(qcO lt x l).Perm (x::l):=by
 intro l
 induction l with
 |nil=>exact List.Perm.refl _
 |cons y r ih=>
  unfold qcO
  split
  ·exact (List.Perm.cons y ih).trans (List.Perm.swap x y r)
  ·exact List.Perm.refl _
theorem qh3 {α:Type} {lt:α→α→Bool}: ∀l acc:List α,(qeN lt acc l).Perm (acc++l):=by
 intro l
 induction l with
 |nil=>intro acc;rw [List.append_nil];exact List.Perm.refl _
 |cons x r ih=>
  intro acc
  refine (ih _).trans ((List.Perm.append_right r (qk2 acc)).trans ?_)
  exact (List.perm_middle (a:=x) (l₁:=acc) (l₂:=r)).symm
theorem qeQ (l:List En):(quO l).Perm l:=(List.reverse_perm _).trans (by simpa using qh3 (lt:=qgd) l [])
theorem qfN (l:List En):(quO l).Pairwise fun a b=>qgd b a=false:=by
 unfold quO
 rw [List.pairwise_reverse]
 exact qeO qgf qge l [] List.Pairwise.nil
def qcm (a b:En):Bool:=decide (b.frm<a.to)||decide (a.frm=b.frm)&&decide (a.to=b.to)
def qae:List En→Bool
 |a::b::r=>qcm a b||qae (b::r)
 |_=>false
theorem qj8 (L:List En):qae L=true↔ ∃i,i+1<L.length∧qcm (L.getD i default) (L.getD (i+1) default)=true:=by
 induction L with
 |nil=>simp [qae]
 |cons a L ih=>
  cases L with
  |nil=>simp [qae]
  |cons b r=>
   rw [qae,Bool.or_eq_true,ih]
   constructor
   ·rintro (h|⟨i,h1,h2⟩)
    ·exact ⟨0,by simp,h⟩
    ·exact ⟨i+1,by simpa using h1,h2⟩
   ·rintro ⟨i,h1,h2⟩
    cases i with
    |zero=>exact .inl h2
    |succ i=>exact .inr ⟨i,by simpa using h1,h2⟩
def qgc (names:List Str) (gs:List Gr) (l:List En):Bool:=qZ (fun s=>qae (ofE names gs l (s:Int))) names.length
end RC
end
section
open Go Go.Proofs AF HY LN
namespace RC
set_option maxHeartbeats 4000000
def qbg (L:List En):List AV:=L.flatMap enC
theorem qfj (e:En):(enC e).length=6:=rfl
theorem qgk (L:List En):(qbg L).length=L.length*6:=by
 unfold qbg
 induction L with
 |nil=>rfl
 |cons a L ih=>rw [List.flatMap_cons,List.length_append,ih,List.length_cons,qfj];omega
theorem qoa (A B:List En):qbg (A++B)=qbg A++qbg B:=by simp [qbg]
theorem qoc (a:En):qbg [a]=enC a:=by simp [qbg]
theorem qkq (L:List En): ∀i,(qbg L).drop (i*6)=qbg (L.drop i):=by
 induction L with
 |nil=>intro i;simp [qbg]
 |cons a L ih=>
  intro i
  cases i with
  |zero=>simp
  |succ i=>
   have e:qbg (a::L)=enC a++qbg L:=rfl
   rw [List.drop_succ_cons,e,List.drop_append,qfj,show (i+1)*6-6=i*6 by omega,ih]
   rw [List.drop_eq_nil_of_le (by rw [qfj];omega)]
   rfl
theorem qob {L:List En} {i:Nat} (hi:i<L.length):((qbg L).drop (i*6)).take 6=enC (L.getD i default):=by
 rw [qkq,List.drop_eq_getElem_cons hi,gdqA,zD hi]
 rfl
end RC
end
section
open Go Go.Proofs AF HY LN
namespace RC
set_option maxHeartbeats 4000000
theorem qc0 {a:En} {r:List En} (h:qae (a::r)=false):qae r=false:=by
 cases r with
 |nil=>rfl
 |cons b r=>rw [qae,Bool.or_eq_false_iff]at h;exact h.2
theorem qmz {L:List En} (hs:L.Pairwise fun a b=>qgd b a=false) (hc:qae L=false):L.Pairwise fun a b=>qgd a b=true:=by
 induction L with
 |nil=>exact List.Pairwise.nil
 |cons a r ih=>
  obtain ⟨h1,h2⟩:=List.pairwise_cons.1 hs
  have h3:=ih h2 (qc0 hc)
  refine List.pairwise_cons.2 ⟨?_,h3⟩
  cases r with
  |nil=>intro z hz;cases hz
  |cons b r=>
   have hab:qgd a b=true:=by
    rw [qae,Bool.or_eq_false_iff]at hc
    have h5:=hc.1
    unfold qcm at h5
    rw [Bool.or_eq_false_iff,Bool.and_eq_false_imp,decide_eq_false_iff_not,decide_eq_true_iff,decide_eq_false_iff_not]at h5
    have h4:=h1 b (by simp)
    rw [qbk]at h4
    rw [qaT]
    obtain ⟨h5,h6⟩:=h5
    by_cases e:a.frm=b.frm
    ·have:=h6 e;omega
    ·omega
   intro z hz
   rcases List.mem_cons.1 hz with rfl|hz
   ·exact hab
   ·have h6:=(List.pairwise_cons.1 h3).1 z hz
    rw [qaT]at*
    omega
theorem qnV {L:List En} (hc:qae L=false) {i:Nat} (hi:i+1<L.length):(L.getD i default).to≤(L.getD (i+1) default).frm:=by
 cases h:qcm (L.getD i default) (L.getD (i+1) default)with
 |true=>rw [(qj8 L).2 ⟨i,hi,h⟩]at hc;cases hc
 |false=>
  unfold qcm at h
  rw [Bool.or_eq_false_iff,decide_eq_false_iff_not]at h
  omega
theorem qhG (names:List Str) (gs:List Gr) (l:List En) (src:Int):(ofE names gs l src).Pairwise fun a b=>qgd b a=false:=List.Pairwise.filter _ (qfN l)
theorem qaz {names:List Str} {gs:List Gr} {l:List En} (h:qgc names gs l=false) {s:Nat} (hs:s<names.length):qae (ofE names gs l (s:Int))=false:=
 qn.1 h s hs
structure quC (names:List Str) (gs:List Gr) (t:List Str) (l:List En):Prop where
 sg:sgE names gs=0
 n:l.length≤4096
 ck: ∀e∈l,qzH names gs t e=0
 cl:qgc names gs l=false
structure qzp (names:List Str) (gs:List Gr) (t:List Str) (e:En):Prop where
 sg:sgE names gs=0
 tn:t.length≤4096
 tw:qng t=0
 lay:0≤e.layer∧e.layer<16
 rng:0≤e.frm∧e.frm≤e.to∧e.to≤t.length
 sp:0<e.sup.length→e.pos=true
 ne:e.vars.length≠0
 va: ∀i,i<e.vars.length→qqj t e i=0
 es:qbm names gs e.sup=0
 ev: ∀i,i<e.vars.length→qbm names gs (e.vars.getD i default).sigla=0
 tc:(qiJ names gs e e.vars.length).2=false
theorem qj7 {names:List Str} {gs:List Gr} {t:List Str} {e:En}:qzH names gs t e=0↔qzp names gs t e:=by
 unfold qzH
 constructor
 ·intro h
  split at h
  ·cases h
  rename_i h1
  split at h
  ·cases h
  rename_i h2
  split at h
  ·cases h
  rename_i h3
  split at h
  ·cases h
  rename_i h4
  split at h
  ·cases h
  rename_i h5
  split at h
  ·cases h
  rename_i h6
  split at h
  ·rename_i h7;exact absurd h h7
  rename_i h7
  split at h
  ·rename_i h8;exact absurd h h8
  rename_i h8
  split at h
  ·rename_i h9;exact absurd h h9
  rename_i h9
  split at h
  ·cases h
  rename_i h10
  unfold quM at h4
  refine ⟨Classical.not_not.1 h1,by omega,Classical.not_not.1 h3,by omega,by omega,fun h=> ?_,h6,jL.1 (Classical.not_not.1 h7),Classical.not_not.1 h8,jL.1 (Classical.not_not.1 h9),?_⟩
  ·cases hp:e.pos with
   |true=>rfl
   |false=>exact absurd ⟨h,hp⟩ h5
  ·rw [qd0]at h10
   simpa using h10
 ·rintro ⟨h1,h2,h3,h4,h5,h6,h7,h8,h9,h10,h11⟩
  have hr: ¬quM t e:=by unfold quM;omega
  rw [if_neg (fun hc=>hc h1),if_neg (by omega),if_neg (fun hc=>hc h3),if_neg hr,if_neg (by rintro ⟨a,b⟩;rw [h6 a]at b;cases b),if_neg h7,if_neg (fun hc=>hc (zG (f:=qqj t e) h8)),if_neg (fun hc=>hc h9),
   if_neg (fun hc=>hc (zG (f:=fun i=>qbm names gs (e.vars.getD i default).sigla) h10)),if_neg (by rw [qd0,h11];simp)]
end RC
end
section
open Go Go.Proofs AF HY LN
namespace RC
set_option maxHeartbeats 8000000
section
variable {k v w : Nat} {h : List AObj} {o o' : AObj} {ty : TypeId} {cs : List AV}
theorem cellsOf_setm (hk:k<h.length):cellsOf (qQ k h (.mem w ty cs)) k v=if w=v then some cs else none:=by
 have:=qfb (l:= []) (v:=v) (w:=w) (ty:=ty) (cs:=cs) hk
 simpa using this
theorem setO_setm:qQ k (qQ k h o) o'=qQ k h o':=ql9
theorem tyOf_setm (hk:k<h.length):qp5 (qG k (qQ k h (.mem w ty cs)))=ty:=by rw [qa0 hk];rfl
end
attribute [go_sem] cellsOf_setm setO_setm tyOf_setm
end RC
end
section
open Go Go.Proofs AF HY LN
namespace AF
theorem Wk.cells {t:List AV} {h:List AObj} {j v:Nat} {ty:TypeId} {cs cs':List AV} (hj:qG j h=some (.mem v ty cs)) (hc:qbi cs cs'):Wk t h t (qQ j h (.mem v ty cs')):=by
 intro N w σ a H
 have hjl:j<σ.length:=by rw [H.hr.len];exact kM hj
 have ho:=zD hjl
 obtain ⟨m1,m2,b,arr,m3,m4,m5,m6,m7,m8⟩:=H.hr.obj j _ _ hj ho
 have q:=H.hr.recell (cs':=cs') hj ho m3 m4 m5 (by rw [hc.length];exact m6) (fun i x hi hx=>m7 i x (by rw [←hc.length];exact hi) hx) (fun i c x hi hx=>by
  obtain ⟨c0,h1,h2⟩:=hc.get i c hi
  exact h2 _ _ _ (m8 i c0 x h1 hx))
 exact ⟨σ,⟨q,H.sz,H.tm,H.df⟩,Ext.refl _ _⟩
end AF
namespace RC
set_option maxHeartbeats 4000000
end RC
end
section
open Go Go.Proofs AF HY LN
namespace RC
set_option maxHeartbeats 4000000
def stV (names:List Str) (gs:List Gr) (e:En):AV:= .sl e.vars.length fun j=> [qo (kW names gs (e.vars.getD j default).sigla)]
def msV (names:List Str) (gs:List Gr) (L:List En):AV:= .sl L.length fun i=> [stV names gs (L.getD i default)]
theorem qop (names:List Str) (gs:List Gr) (e:En):(stV names gs e).flag=true:=rfl
theorem qmF (names:List Str) (gs:List Gr) (e:En):(stV names gs e).strip=stV names gs e:=rfl
theorem qon (names:List Str) (gs:List Gr) (L:List En):(msV names gs L).flag=true:=rfl
theorem qmD (names:List Str) (gs:List Gr) (L:List En):(msV names gs L).strip=msV names gs L:=rfl
theorem qsR {fz:Nat→Bool} {h:List AObj} {n:Nat} (names:List Str) (gs:List Gr) (e:En):frz fz h (n+1) (stV names gs e)=stV names gs e:=rfl
theorem qtJ {fz:Nat→Bool} {h:List AObj} {n:Nat} (names:List Str) (gs:List Gr) (e:En):rei fz h (n+1) (stV names gs e)=stV names gs e:=rfl
theorem qsQ {fz:Nat→Bool} {h:List AObj} {n:Nat} (names:List Str) (gs:List Gr) (L:List En):frz fz h (n+1) (msV names gs L)=msV names gs L:=rfl
theorem qtI {fz:Nat→Bool} {h:List AObj} {n:Nat} (names:List Str) (gs:List Gr) (L:List En):rei fz h (n+1) (msV names gs L)=msV names gs L:=rfl
attribute [go_sem] qop qmF qon qmD qsR qtJ qsQ qtI
end RC
end
section
open Go Go.Proofs AF HY LN
namespace AF
theorem qaM {P:Program} {f:FuncId} {cap:List AV} {xs:List (List AV)} (hf:quA P f cap xs) {ps:List Nat} {b:Nat} {x y:C} {Q:Ex→Nx} {ts:List AV} {h:List AObj} (hps: ∀a∈xs,a.length=ps.length)
  (S:Nat→List AObj→Prop) (E:Ex→List AObj→Prop) (hS: ∀i hh,S i hh→LowI h hh) (hE: ∀s hh,E s hh→LowI h hh)
  (start:S 0 h) (hts: ∀c∈ts,jg (h.length+1) c=true)
  (body: ∀i hh tl L TS,(hi:i<xs.length)→S i hh→hh.length=h.length→ ∀(K:Nx) (K2:Ex→Nx),
   (∀t2 X hm,X=hm++ .lp .ready TS L::tl→hm.length=h.length→qW P b y K2 t2 (hm++ .lp .busy TS L::tl)→K t2 X)→
   (∀t3 X hh',X=hh'++ .lp .busy TS L::tl→hh'.length=h.length→S (i+1) hh'→K2 .normal t3 X)→
   (∀t3 X hh',X=hh'++ .lp .busy TS L::tl→hh'.length=h.length→E .ret hh'→K2 .ret t3 X)→
   (∀id t3 X hh',X=hh'++ .lp .busy TS L::tl→hh'.length=h.length→E (.exit id) hh'→K2 (.exit id) t3 X)→
   qW P b x (Ex.andThen K (fun _ _ _=>False)) (qb1 ts ps (xs[i])) (hh++ .lp .ready TS L::tl))
  (done: ∀hh,S xs.length hh→Q .normal ts hh) (doneE: ∀e hh,E e hh→match e with
   | .normal=>False
   |e=>Q e ts hh):
  qeF P (.fn (.func f) [] cap) ps (qW P b x) (qW P b y) Q ts h:=by
 intro L hy
 show jJ _ _ _ _ _
 have key:=hf h ts L S (fun s hh=>match s with
  | .ret=>E .ret hh
  | .exit id=>E (.exit id) hh
  |_=>False) hS
  (by
   intro s hh hs
   cases s with
   |ret=>exact hE _ _ hs
   |exit id=>exact hE _ _ hs
   |ready=>exact hs.elim
   |busy=>exact hs.elim)
  (by
   intro i hh tl hi i4
   have hlen:=(hS _ _ i4).1
   refine hy h.length ts _ _ _ (km hlen) (hps _ (List.getElem_mem hi)) ?_
   refine qan (Q:=Ex.andThen (fun t2 h2=> ∃hm,hm.length=h.length∧h2=hm++ .lp .ready ts L::tl∧
    qW P b y (fun e t3 h3=> ∃hh',h3=hh'++ .lp .busy ts L::tl∧hh'.length=h.length∧match e with
     | .normal=>S (i+1) hh'
     | .ret=>E .ret hh'
     | .exit id=>E (.exit id) hh') t2 (hm++ .lp .busy ts L::tl)) (fun _ _ _=>False)) ?_
    (body i hh tl L ts hi i4 hlen _ _ (fun t2 X hm e1 e2 e3=>⟨hm,e2,e1,e3⟩) (fun t3 X hh' e1 e2 e3=>⟨hh',e1,e2,e3⟩) (fun t3 X hh' e1 e2 e3=>⟨hh',e1,e2,e3⟩) (fun id t3 X hh' e1 e2 e3=>⟨hh',e1,e2,e3⟩))
   intro e t2 h2 hq
   cases e with
   |ret=>exact hq.elim
   |exit id=>exact hq.elim
   |normal=>
    obtain ⟨hm,hml,rfl,h3⟩:=hq
    refine ⟨rfl,⟨ts,km hml⟩,fun ts' hts'=> ?_⟩
    rw [km hml]at hts'
    cases hts'
    rw [qbV hml]
    refine qan ?_ h3
    rintro e t3 h3' ⟨hh',rfl,g1,g2⟩
    refine ⟨ts,km g1,?_⟩
    cases e with
    |normal=>exact ⟨hh',.inl ⟨rfl,g2,qbV g1⟩⟩
    |ret=>exact ⟨hh',.inr ⟨.ret,rfl,g2,qbV g1⟩⟩
    |exit id=>exact ⟨hh',.inr ⟨.exit id,rfl,g2,qbV g1⟩⟩)
  start hts
 refine key.le (qbi.refl _) ?_
 rintro v h' ⟨hh,⟨g1,rfl⟩|⟨s,g1,rfl⟩⟩
 ·have hl:=hS _ _ g1
  exact ⟨v,VLe.refl _,hh,.ready,ts,L,rfl,hl.1,fun o ho=>(hl.2 o ho).imp (fun h=>h) And.left,done hh g1⟩
 ·cases s with
  |ready=>exact g1.elim
  |busy=>exact g1.elim
  |ret=>
   have hl:=hE _ _ g1
   exact ⟨v,VLe.refl _,hh,.ret,ts,L,rfl,hl.1,fun o ho=>(hl.2 o ho).imp (fun h=>h) And.left,doneE _ _ g1⟩
  |exit id=>
   have hl:=hE _ _ g1
   exact ⟨v,VLe.refl _,hh,.exit id,ts,L,rfl,hl.1,fun o ho=>(hl.2 o ho).imp (fun h=>h) And.left,doneE _ _ g1⟩
end AF
namespace RC
set_option maxHeartbeats 4000000
theorem qdy (n:Nat) (L:List Str):jg n (strs L)=true:=rfl
end RC
end
section
open Go Go.Proofs AF HY LN
namespace AF
theorem Wk.ownNil {t:List AV} {h:List AObj} {j v i k ve sz:Nat} {ty:TypeId} {cs:List AV} (hj:qG j h=some (.mem v ty cs)) (hi:cs[i]? =some .nl) (hk:qG k h=some (.emp ve)):
  Wk t h t (qQ j h (.mem v ty (cs.set i (.osl k ve sz 0 0)))):=by
 intro N w σ a H
 have hjl:j<σ.length:=by rw [H.hr.len];exact kM hj
 have hkl:k<σ.length:=by rw [H.hr.len];exact kM hk
 have ho:=zD hjl
 have hok:=zD hkl
 obtain ⟨e1,e2⟩:=H.hr.obj k _ _ hk hok
 obtain ⟨m1,m2,b,arr,m3,m4,m5,m6,m7,m8⟩:=H.hr.obj j _ _ hj ho
 have q:=H.hr.recell (cs':=cs.set i (.osl k ve sz 0 0)) hj ho m3 m4 m5 (by simpa using m6) (fun n x hn hx=>m7 n x (by simpa using hn) hx) (fun n c x hn hx=>by
  rw [List.getElem?_set]at hn
  split at hn
  ·rename_i e
   subst e
   split at hn
   ·cases hn
    have hv:=m8 i _ x hi hx
    cases hv with
    |imm hv=>
     cases hv
     exact .osl _ hok ⟨none,0,0,rfl⟩ (Nat.le_of_eq e1.symm) (fun _=> .inl ⟨e2,rfl,rfl,rfl⟩)
   ·cases hn
  ·exact m8 n c x hn hx)
 exact ⟨σ,⟨q,H.sz,H.tm,H.df⟩,Ext.refl _ _⟩
end AF
namespace RC
set_option maxHeartbeats 4000000
structure qBS (t:List Str) (L:List En):Prop where
 rg: ∀i,i<L.length→0≤(L.getD i default).frm∧(L.getD i default).frm≤(L.getD i default).to∧(L.getD i default).to≤t.length
 nx: ∀i,i+1<L.length→(L.getD i default).to≤(L.getD (i+1) default).frm
theorem qte {names:List Str} {gs:List Gr} {l:List En} {src:Int} {e:En} (h:e∈ofE names gs l src):e∈l:=(qeQ l).subset (List.mem_filter.1 h).1
theorem qcs {L:List En} {i:Nat} (hi:i<L.length):L.getD i default∈L:=by
 rw [gdqA,zD hi]
 exact List.getElem_mem hi
theorem quC.tx {names:List Str} {gs:List Gr} {t:List Str} {l:List En} (h:quC names gs t l) {s:Nat} (hs:s<names.length):qBS t (ofE names gs l (s:Int)):=
 ⟨fun i hi=>(qj7.1 (h.ck _ (qte (qcs hi)))).rng,fun i hi=>qnV (qaz h.cl hs) hi⟩
end RC
end
section
open Go Go.Proofs AF HY LN
namespace RC
set_option maxHeartbeats 4000000
structure CSz (names:List Str) (gs:List Gr) (t:List Str) (l:List En):Prop where
 hz:Szs names gs
 ht:TSz t
 tn:t.length≤1000
 ln:l.length≤10
 nn:names.length≤1000
 gm: ∀i,(gs.getD i default).mem.length≤1000
 he: ∀i,ESz (l.getD i default)
 vl: ∀i,(l.getD i default).vars.length≤1000
 sg: ∀i j,((l.getD i default).vars.getD j default).sigla.length≤1000
 wl: ∀i j,((l.getD i default).vars.getD j default).words.length≤1000
 sp: ∀i,(l.getD i default).sup.length≤1000
def qt0 (L:List (List Str)):AV:= .sl L.length fun i=> [strs (L.getD i [])]
theorem qht (L:List (List Str)):(qt0 L).flag=true:=rfl
theorem qfU (L:List (List Str)):(qt0 L).strip=qt0 L:=rfl
attribute [go_sem] qht qfU
theorem jE (L:List Str):(jj L).length=L.length:=by simp [jj]
theorem qce (L M:List Str):jj (L++M)=jj L++jj M:=by simp [jj]
theorem qpU {L:List Str}:jj L= []↔L= []:=by simp [jj]
theorem qpW {L:List Str} {n:Nat} (g:AV→AV) (hg: ∀s,g (.str s)= .str s) (hn:n=L.length):VLe (.sl n fun i=>(((jj L).drop i).take 1).map g) (strs L):=by
 subst hn
 refine VLe.sl_eq rfl (fun i hi=> ?_)
 unfold jj
 rw [←List.map_drop,List.drop_eq_getElem_cons hi,List.map_cons,List.take_succ_cons,List.take_zero,List.map_cons,List.map_nil,hg,gdqA,zD hi]
 rfl
theorem qou {α β:Type} (f:α→β) (L:List α):L.flatMap (fun i=> [f i])=L.map f:=by
 induction L with
 |nil=>rfl
 |cons a L ih=>rw [List.flatMap_cons,ih];rfl
theorem qmt (h:List AObj) {t:List Str} {a b:Nat} (h1:a≤b) (h2:b≤t.length):qs h (.sl (b-a) fun i=> [.str (t.getD (a+i) [])])=some (b-a,jj (kR t a b)):=by
 show some (b-a,(List.range (b-a)).flatMap fun i=> [AV.str (t.getD (a+i) [])])=_
 rw [qou (fun i=>AV.str (t.getD (a+i) []))]
 congr 2
 unfold jj kR
 apply List.ext_getElem
 ·simp;omega
 ·intro i g1 g2
  have hi:i<b-a:=by simpa using g1
  have hl:a+i<t.length:=by omega
  simp [gdqA,hl]
theorem qpT (h:List AObj) (t:List Str):qs h (strs t)=some (t.length,jj t):=by
 have:=qmt h (t:=t) (a:=0) (b:=t.length) (Nat.zero_le _) (Nat.le_refl _)
 simp only [Nat.sub_zero,Nat.zero_add]at this
 have e:kR t 0 t.length=t:=by simp [kR]
 rw [e]at this
 exact this
end RC
end
section
open Go Go.Proofs AF HY LN
namespace RC
set_option maxHeartbeats 8000000
def gwB (ws:List Str) (n:Nat):Bool:=qZ (fun i=>decide (20<(ws.getD i []).length)) ws.length||decide (n<ws.length)
theorem jn {p:Nat→Bool} {i:Nat} (h: ∀j,j<i→p j=false) (hp:p i=false): ∀j,j<i+1→p j=false:=by
 intro j hj
 by_cases e:j=i
 ·subst e;exact hp
 ·exact h j (by omega)
theorem gwP (ws:List Str) (n:Nat) (h:List AObj) (hn:ws.length≤9223372036854775807):ACalls Tryz.prog 70 [strs ws,.int .i64 n] h (.bool (gwB ws n)) h:=by
 obtain ⟨R,hR⟩: ∃R,R=gwB ws n:=⟨_,rfl⟩
 rw [←hR]
 unfold gwB at hR
 refine acO qz7 ?_
 simp (disch:=omega) only [qBs,List.replicate,strs,go_sem]
 repeat' first
  |((first|apply qd|apply qb);exact rvk;simp only [go_sem];first|exact VLe.refl _|apply qe|apply qa|apply qf|skip)
  |with_reducible first|apply And.intro|intro _
 all_goals try exact clz
 refine qt (T:=fun i:Nat=>qU 22 [(0,strs ws),(1,.int .i64 n),(5,.int .i64 i)]) (H:=fun _=>h) (inv:=fun i=>i≤ws.length∧ ∀j,j<i→(fun i=>decide (20<(ws.getD i []).length)) j=false) (m:=fun i=>ws.length-i) 0 ⟨Nat.zero_le _,fun j hj=>by omega⟩ (Wk.temps ?_) ?_
 ·(simp only [strs,List.replicate,go_sem,qk,qi,qg,qj];try (repeat' first|(with_reducible apply And.intro)|(apply qe;omega)|(apply qa;rfl)|exact VLe.refl _))
 rintro i ⟨i1,i2⟩ K hK
 by_cases hi:i<ws.length
 ·have k1:((i:Int)<ws.length)=True:=eq_true (by omega)
  by_cases g:20<(ws.getD i []).length
  ·have hV:R=true:=by rw [hR,qF.2 ⟨i,hi,decide_eq_true g⟩];rfl
   obtain ⟨s,hs⟩: ∃s,s=ws.getD i []:=⟨_,rfl⟩
   have es:=hs.symm
   rw [es]at g
   have k2:((20:Int)<s.length)=True:=eq_true (by omega)
   rw [hV]
   simp (disch:=omega) only [List.replicate,strs,k1,k2,es,go_sem]
   repeat' first
    |((first|apply qd|apply qb);exact rvk;simp only [go_sem];first|exact VLe.refl _|apply qe|apply qa|apply qf|skip)
    |with_reducible first|apply And.intro|intro _
   all_goals try exact clz
  ·have i3:=jn i2 (decide_eq_false g)
   obtain ⟨s,hs⟩: ∃s,s=ws.getD i []:=⟨_,rfl⟩
   have es:=hs.symm
   rw [es]at g
   have k2:((20:Int)<s.length)=False:=eq_false (by omega)
   simp (disch:=omega) only [List.replicate,strs,k1,k2,es,go_sem]
   repeat' first
    |((first|apply qd|apply qb);exact rvk;simp only [go_sem];first|exact VLe.refl _|apply qe|apply qa|apply qf|skip)
    |with_reducible first|apply And.intro|intro _
   all_goals try exact clz
   refine hK _ _ (i+1) ⟨hi,i3⟩ (by omega) (Wk.temps ?_)
   (simp only [strs,List.replicate,go_sem,qk,qi,qg,qj];try (repeat' first|(with_reducible apply And.intro)|(apply qe;omega)|(apply qa;rfl)|exact VLe.refl _))
 ·have k1:((i:Int)<ws.length)=False:=eq_false (by omega)
  rw [qn.2 (fun j hj=>i2 j (by omega)),Bool.false_or]at hR
  have e:decide ((n:Int)<ws.length)=R:=by rw [hR];exact decide_eq_decide.2 (by omega)
  simp (disch:=omega) only [List.replicate,strs,k1,go_sem]
  repeat' first
   |((first|apply qd|apply qb);exact rvk;simp only [go_sem];first|exact VLe.refl _|apply qe|apply qa|apply qf|skip)
   |with_reducible first|apply And.intro|intro _
  all_goals try exact clz
structure EnB (e:En):Prop where
 v:e.vars.length≤9223372036854775807
 s:e.sup.length≤9223372036854775807
 w: ∀i,(e.vars.getD i default).words.length≤9223372036854775807
 g: ∀i,(e.vars.getD i default).sigla.length≤9223372036854775807
end RC
end
section
open Go Go.Proofs AF HY LN
namespace RC
set_option maxHeartbeats 8000000
def grB (g:Gr):Bool:=decide (20<g.name.length)||decide (40<g.mem.length)
def qkQ (names:List Str) (gs:List Gr):Bool:=
 qZ (fun i=>decide (20<(names.getD i []).length)) names.length||(qZ (fun i=>grB (gs.getD i default)) gs.length||
  (((decide (8<names.length)&&decide (names.length≤32))||decide (34<names.length))||(decide (5<gs.length)&&decide (gs.length≤16))||decide (18<gs.length)))
theorem qCk (names:List Str) (gs:List Gr) (h:List AObj) (hn:names.length≤9223372036854775807) (hg:gs.length≤9223372036854775807):ACalls Tryz.prog 69 [strs names,qE gs] h (.bool (qkQ names gs)) h:=by
 obtain ⟨R,hR⟩: ∃R,R=qkQ names gs:=⟨_,rfl⟩
 rw [←hR]
 unfold qkQ at hR
 refine acO qz6 ?_
 simp (disch:=omega) only [qBr,List.replicate,strs,qE,go_sem]
 repeat' first
  |((first|apply qd|apply qb);exact rvk;simp only [go_sem];first|exact VLe.refl _|apply qe|apply qa|apply qf|skip)
  |with_reducible first|apply And.intro|intro _
 all_goals try exact clz
 refine qt (T:=fun i:Nat=>qU 69 [(0,strs names),(1,qE gs),(5,.int .i64 i)]) (H:=fun _=>h) (inv:=fun i=>i≤names.length∧ ∀j,j<i→(fun i=>decide (20<(names.getD i []).length)) j=false) (m:=fun i=>names.length-i) 0 ⟨Nat.zero_le _,fun j hj=>by omega⟩ (Wk.temps ?_) ?_
 ·(simp only [strs,qE,List.replicate,go_sem,qk,qi,qg,qj];try (repeat' first|(with_reducible apply And.intro)|(apply qe;omega)|(apply qa;rfl)|exact VLe.refl _))
 rintro i ⟨i1,i2⟩ K hK
 by_cases hi:i<names.length
 ·have k1:((i:Int)<names.length)=True:=eq_true (by omega)
  by_cases g:20<(names.getD i []).length
  ·have hV:R=true:=by rw [hR,qF.2 ⟨i,hi,decide_eq_true g⟩];rfl
   obtain ⟨s,hs⟩: ∃s,s=names.getD i []:=⟨_,rfl⟩
   have es:=hs.symm
   rw [es]at g
   have k2:((20:Int)<s.length)=True:=eq_true (by omega)
   rw [hV]
   simp (disch:=omega) only [List.replicate,strs,qE,k1,k2,es,go_sem]
   repeat' first
    |((first|apply qd|apply qb);exact rvk;simp only [go_sem];first|exact VLe.refl _|apply qe|apply qa|apply qf|skip)
    |with_reducible first|apply And.intro|intro _
   all_goals try exact clz
  ·have i3:=jn i2 (decide_eq_false g)
   obtain ⟨s,hs⟩: ∃s,s=names.getD i []:=⟨_,rfl⟩
   have es:=hs.symm
   rw [es]at g
   have k2:((20:Int)<s.length)=False:=eq_false (by omega)
   simp (disch:=omega) only [List.replicate,strs,qE,k1,k2,es,go_sem]
   repeat' first
    |((first|apply qd|apply qb);exact rvk;simp only [go_sem];first|exact VLe.refl _|apply qe|apply qa|apply qf|skip)
    |with_reducible first|apply And.intro|intro _
   all_goals try exact clz
   refine hK _ _ (i+1) ⟨hi,i3⟩ (by omega) (Wk.temps ?_)
   (simp only [strs,qE,List.replicate,go_sem,qk,qi,qg,qj];try (repeat' first|(with_reducible apply And.intro)|(apply qe;omega)|(apply qa;rfl)|exact VLe.refl _))
 have k1:((i:Int)<names.length)=False:=eq_false (by omega)
 rw [qn.2 (fun j hj=>i2 j (by omega)),Bool.false_or]at hR
 simp (disch:=omega) only [List.replicate,strs,qE,k1,go_sem]
 repeat' first
  |((first|apply qd|apply qb);exact rvk;simp only [go_sem];first|exact VLe.refl _|apply qe|apply qa|apply qf|skip)
  |with_reducible first|apply And.intro|intro _
 all_goals try exact clz
 refine qt (T:=fun i:Nat=>qU 69 [(0,strs names),(1,qE gs),(6,.int .i64 i)]) (H:=fun _=>h) (inv:=fun i=>i≤gs.length∧ ∀j,j<i→(fun i=>grB (gs.getD i default)) j=false) (m:=fun i=>gs.length-i) 0 ⟨Nat.zero_le _,fun j hj=>by omega⟩ (Wk.temps ?_) ?_
 ·(simp only [strs,qE,List.replicate,go_sem,qk,qi,qg,qj];try (repeat' first|(with_reducible apply And.intro)|(apply qe;omega)|(apply qa;rfl)|exact VLe.refl _))
 clear hK K
 rintro i ⟨i1,i2⟩ K hK
 by_cases hi:i<gs.length
 ·have k1:((i:Int)<gs.length)=True:=eq_true (by omega)
  have hit:grB (gs.getD i default)=true→R=true:=fun hc=>by rw [hR,qF.2 ⟨i,hi,hc⟩];rfl
  have i3:=fun hc=>jn (p:=fun i=>grB (gs.getD i default)) i2 hc
  obtain ⟨g,hg⟩: ∃g,g=gs.getD i default:=⟨_,rfl⟩
  have eg:=hg.symm
  simp only [eg]at hit i3
  have hB:grB g=(decide (20<g.name.length)||decide (40<g.mem.length)):=rfl
  by_cases g1:20<g.name.length
  ·have k2:((20:Int)<g.name.length)=True:=eq_true (by omega)
   rw [hit (by rw [hB,decide_eq_true g1];rfl)]
   simp (disch:=omega) only [List.replicate,strs,qE,grC,k1,k2,eg,go_sem]
   repeat' first
    |((first|apply qd|apply qb);exact rvk;simp only [go_sem];first|exact VLe.refl _|apply qe|apply qa|apply qf|skip)
    |with_reducible first|apply And.intro|intro _
   all_goals try exact clz
  ·have k2:((20:Int)<g.name.length)=False:=eq_false (by omega)
   by_cases g2:40<g.mem.length
   ·have k3:((40:Int)<g.mem.length)=True:=eq_true (by omega)
    rw [hit (by rw [hB,decide_eq_true g2,Bool.or_true])]
    simp (disch:=omega) only [List.replicate,strs,qE,grC,qo,k1,k2,k3,eg,go_sem]
    repeat' first
     |((first|apply qd|apply qb);exact rvk;simp only [go_sem];first|exact VLe.refl _|apply qe|apply qa|apply qf|skip)
     |with_reducible first|apply And.intro|intro _
    all_goals try exact clz
   ·have k3:((40:Int)<g.mem.length)=False:=eq_false (by omega)
    simp (disch:=omega) only [List.replicate,strs,qE,grC,qo,k1,k2,k3,eg,go_sem]
    repeat' first
     |((first|apply qd|apply qb);exact rvk;simp only [go_sem];first|exact VLe.refl _|apply qe|apply qa|apply qf|skip)
     |with_reducible first|apply And.intro|intro _
    all_goals try exact clz
    refine hK _ _ (i+1) ⟨hi,i3 (by rw [hB,decide_eq_false g1,decide_eq_false g2];rfl)⟩ (by omega) (Wk.temps ?_)
    (simp only [strs,qE,List.replicate,go_sem,qk,qi,qg,qj];try (repeat' first|(with_reducible apply And.intro)|(apply qe;omega)|(apply qa;rfl)|exact VLe.refl _))
 have k2:((i:Int)<gs.length)=False:=eq_false (by omega)
 rw [qn.2 (fun j hj=>i2 j (by omega)),Bool.false_or]at hR
 have n1:((8:Int)<names.length)=(8<names.length):=propext (by omega)
 have n2:((names.length:Int)≤32)=(names.length≤32):=propext (by omega)
 have n3:((34:Int)<names.length)=(34<names.length):=propext (by omega)
 have n4:((5:Int)<gs.length)=(5<gs.length):=propext (by omega)
 have n5:((gs.length:Int)≤16)=(gs.length≤16):=propext (by omega)
 have n6:((18:Int)<gs.length)=(18<gs.length):=propext (by omega)
 obtain ⟨q1,h1⟩: ∃q,q=decide (8<names.length):=⟨_,rfl⟩
 obtain ⟨q2,h2⟩: ∃q,q=decide (names.length≤32):=⟨_,rfl⟩
 obtain ⟨q3,h3⟩: ∃q,q=decide (34<names.length):=⟨_,rfl⟩
 obtain ⟨q4,h4⟩: ∃q,q=decide (5<gs.length):=⟨_,rfl⟩
 obtain ⟨q5,h5⟩: ∃q,q=decide (gs.length≤16):=⟨_,rfl⟩
 obtain ⟨q6,h6⟩: ∃q,q=decide (18<gs.length):=⟨_,rfl⟩
 have e1:=h1.symm
 have e2:=h2.symm
 have e3:=h3.symm
 have e4:=h4.symm
 have e5:=h5.symm
 have e6:=h6.symm
 rw [e1,e2,e3,e4,e5,e6]at hR
 have b1:(q1=true∧q2=true)∨(q1=false∧q2=true)∨(q1=true∧q2=false)∨(q1=false∧q2=false):=by cases q1<;>cases q2<;>simp
 have b4:(q4=true∧q5=true)∨(q4=false∧q5=true)∨(q4=true∧q5=false)∨(q4=false∧q5=false):=by cases q4<;>cases q5<;>simp
 clear h1 h2 h3 h4 h5 h6
 rcases b1 with ⟨rfl,rfl⟩|⟨rfl,rfl⟩|⟨rfl,rfl⟩|⟨rfl,rfl⟩
 ·skip
  simp only [Bool.true_and,Bool.false_and,Bool.true_or,Bool.false_or]at hR
  rw [hR]
  simp (disch:=omega) only [List.replicate,strs,qE,k2,n1,n2,n3,n4,n5,n6,e1,e2,e3,e4,e5,e6,go_sem]
  repeat' first
   |((first|apply qd|apply qb);exact rvk;simp only [go_sem];first|exact VLe.refl _|apply qe|apply qa|apply qf|skip)
   |with_reducible first|apply And.intro|intro _
  all_goals try exact clz
 ·skip
  cases q3 with
  |true=>
   simp only [Bool.true_and,Bool.false_and,Bool.true_or,Bool.false_or]at hR
   rw [hR]
   simp (disch:=omega) only [List.replicate,strs,qE,k2,n1,n2,n3,n4,n5,n6,e1,e2,e3,e4,e5,e6,go_sem]
   repeat' first
    |((first|apply qd|apply qb);exact rvk;simp only [go_sem];first|exact VLe.refl _|apply qe|apply qa|apply qf|skip)
    |with_reducible first|apply And.intro|intro _
   all_goals try exact clz
  |false=>
   rcases b4 with ⟨rfl,rfl⟩|⟨rfl,rfl⟩|⟨rfl,rfl⟩|⟨rfl,rfl⟩
   ·skip
    simp only [Bool.true_and,Bool.false_and,Bool.true_or,Bool.false_or]at hR
    rw [hR]
    simp (disch:=omega) only [List.replicate,strs,qE,k2,n1,n2,n3,n4,n5,n6,e1,e2,e3,e4,e5,e6,go_sem]
    repeat' first
     |((first|apply qd|apply qb);exact rvk;simp only [go_sem];first|exact VLe.refl _|apply qe|apply qa|apply qf|skip)
     |with_reducible first|apply And.intro|intro _
    all_goals try exact clz
   ·skip
    cases q6 with
    |true=>
     simp only [Bool.true_and,Bool.false_and,Bool.true_or,Bool.false_or]at hR
     rw [hR]
     simp (disch:=omega) only [List.replicate,strs,qE,k2,n1,n2,n3,n4,n5,n6,e1,e2,e3,e4,e5,e6,go_sem]
     repeat' first
      |((first|apply qd|apply qb);exact rvk;simp only [go_sem];first|exact VLe.refl _|apply qe|apply qa|apply qf|skip)
      |with_reducible first|apply And.intro|intro _
     all_goals try exact clz
    |false=>
     simp only [Bool.true_and,Bool.false_and,Bool.true_or,Bool.false_or]at hR
     rw [hR]
     simp (disch:=omega) only [List.replicate,strs,qE,k2,n1,n2,n3,n4,n5,n6,e1,e2,e3,e4,e5,e6,go_sem]
     repeat' first
      |((first|apply qd|apply qb);exact rvk;simp only [go_sem];first|exact VLe.refl _|apply qe|apply qa|apply qf|skip)
      |with_reducible first|apply And.intro|intro _
     all_goals try exact clz
   ·skip
    cases q6 with
    |true=>
     simp only [Bool.true_and,Bool.false_and,Bool.true_or,Bool.false_or]at hR
     rw [hR]
     simp (disch:=omega) only [List.replicate,strs,qE,k2,n1,n2,n3,n4,n5,n6,e1,e2,e3,e4,e5,e6,go_sem]
     repeat' first
      |((first|apply qd|apply qb);exact rvk;simp only [go_sem];first|exact VLe.refl _|apply qe|apply qa|apply qf|skip)
      |with_reducible first|apply And.intro|intro _
     all_goals try exact clz
    |false=>
     simp only [Bool.true_and,Bool.false_and,Bool.true_or,Bool.false_or]at hR
     rw [hR]
     simp (disch:=omega) only [List.replicate,strs,qE,k2,n1,n2,n3,n4,n5,n6,e1,e2,e3,e4,e5,e6,go_sem]
     repeat' first
      |((first|apply qd|apply qb);exact rvk;simp only [go_sem];first|exact VLe.refl _|apply qe|apply qa|apply qf|skip)
      |with_reducible first|apply And.intro|intro _
     all_goals try exact clz
   ·skip
    cases q6 with
    |true=>
     simp only [Bool.true_and,Bool.false_and,Bool.true_or,Bool.false_or]at hR
     rw [hR]
     simp (disch:=omega) only [List.replicate,strs,qE,k2,n1,n2,n3,n4,n5,n6,e1,e2,e3,e4,e5,e6,go_sem]
     repeat' first
      |((first|apply qd|apply qb);exact rvk;simp only [go_sem];first|exact VLe.refl _|apply qe|apply qa|apply qf|skip)
      |with_reducible first|apply And.intro|intro _
     all_goals try exact clz
    |false=>
     simp only [Bool.true_and,Bool.false_and,Bool.true_or,Bool.false_or]at hR
     rw [hR]
     simp (disch:=omega) only [List.replicate,strs,qE,k2,n1,n2,n3,n4,n5,n6,e1,e2,e3,e4,e5,e6,go_sem]
     repeat' first
      |((first|apply qd|apply qb);exact rvk;simp only [go_sem];first|exact VLe.refl _|apply qe|apply qa|apply qf|skip)
      |with_reducible first|apply And.intro|intro _
     all_goals try exact clz
 ·skip
  cases q3 with
  |true=>
   simp only [Bool.true_and,Bool.false_and,Bool.true_or,Bool.false_or]at hR
   rw [hR]
   simp (disch:=omega) only [List.replicate,strs,qE,k2,n1,n2,n3,n4,n5,n6,e1,e2,e3,e4,e5,e6,go_sem]
   repeat' first
    |((first|apply qd|apply qb);exact rvk;simp only [go_sem];first|exact VLe.refl _|apply qe|apply qa|apply qf|skip)
    |with_reducible first|apply And.intro|intro _
   all_goals try exact clz
  |false=>
   rcases b4 with ⟨rfl,rfl⟩|⟨rfl,rfl⟩|⟨rfl,rfl⟩|⟨rfl,rfl⟩
   ·skip
    simp only [Bool.true_and,Bool.false_and,Bool.true_or,Bool.false_or]at hR
    rw [hR]
    simp (disch:=omega) only [List.replicate,strs,qE,k2,n1,n2,n3,n4,n5,n6,e1,e2,e3,e4,e5,e6,go_sem]
    repeat' first
     |((first|apply qd|apply qb);exact rvk;simp only [go_sem];first|exact VLe.refl _|apply qe|apply qa|apply qf|skip)
     |with_reducible first|apply And.intro|intro _
    all_goals try exact clz
   ·skip
    cases q6 with
    |true=>
     simp only [Bool.true_and,Bool.false_and,Bool.true_or,Bool.false_or]at hR
     rw [hR]
     simp (disch:=omega) only [List.replicate,strs,qE,k2,n1,n2,n3,n4,n5,n6,e1,e2,e3,e4,e5,e6,go_sem]
     repeat' first
      |((first|apply qd|apply qb);exact rvk;simp only [go_sem];first|exact VLe.refl _|apply qe|apply qa|apply qf|skip)
      |with_reducible first|apply And.intro|intro _
     all_goals try exact clz
    |false=>
     simp only [Bool.true_and,Bool.false_and,Bool.true_or,Bool.false_or]at hR
     rw [hR]
     simp (disch:=omega) only [List.replicate,strs,qE,k2,n1,n2,n3,n4,n5,n6,e1,e2,e3,e4,e5,e6,go_sem]
     repeat' first
      |((first|apply qd|apply qb);exact rvk;simp only [go_sem];first|exact VLe.refl _|apply qe|apply qa|apply qf|skip)
      |with_reducible first|apply And.intro|intro _
     all_goals try exact clz
   ·skip
    cases q6 with
    |true=>
     simp only [Bool.true_and,Bool.false_and,Bool.true_or,Bool.false_or]at hR
     rw [hR]
     simp (disch:=omega) only [List.replicate,strs,qE,k2,n1,n2,n3,n4,n5,n6,e1,e2,e3,e4,e5,e6,go_sem]
     repeat' first
      |((first|apply qd|apply qb);exact rvk;simp only [go_sem];first|exact VLe.refl _|apply qe|apply qa|apply qf|skip)
      |with_reducible first|apply And.intro|intro _
     all_goals try exact clz
    |false=>
     simp only [Bool.true_and,Bool.false_and,Bool.true_or,Bool.false_or]at hR
     rw [hR]
     simp (disch:=omega) only [List.replicate,strs,qE,k2,n1,n2,n3,n4,n5,n6,e1,e2,e3,e4,e5,e6,go_sem]
     repeat' first
      |((first|apply qd|apply qb);exact rvk;simp only [go_sem];first|exact VLe.refl _|apply qe|apply qa|apply qf|skip)
      |with_reducible first|apply And.intro|intro _
     all_goals try exact clz
   ·skip
    cases q6 with
    |true=>
     simp only [Bool.true_and,Bool.false_and,Bool.true_or,Bool.false_or]at hR
     rw [hR]
     simp (disch:=omega) only [List.replicate,strs,qE,k2,n1,n2,n3,n4,n5,n6,e1,e2,e3,e4,e5,e6,go_sem]
     repeat' first
      |((first|apply qd|apply qb);exact rvk;simp only [go_sem];first|exact VLe.refl _|apply qe|apply qa|apply qf|skip)
      |with_reducible first|apply And.intro|intro _
     all_goals try exact clz
    |false=>
     simp only [Bool.true_and,Bool.false_and,Bool.true_or,Bool.false_or]at hR
     rw [hR]
     simp (disch:=omega) only [List.replicate,strs,qE,k2,n1,n2,n3,n4,n5,n6,e1,e2,e3,e4,e5,e6,go_sem]
     repeat' first
      |((first|apply qd|apply qb);exact rvk;simp only [go_sem];first|exact VLe.refl _|apply qe|apply qa|apply qf|skip)
      |with_reducible first|apply And.intro|intro _
     all_goals try exact clz
 ·skip
  cases q3 with
  |true=>
   simp only [Bool.true_and,Bool.false_and,Bool.true_or,Bool.false_or]at hR
   rw [hR]
   simp (disch:=omega) only [List.replicate,strs,qE,k2,n1,n2,n3,n4,n5,n6,e1,e2,e3,e4,e5,e6,go_sem]
   repeat' first
    |((first|apply qd|apply qb);exact rvk;simp only [go_sem];first|exact VLe.refl _|apply qe|apply qa|apply qf|skip)
    |with_reducible first|apply And.intro|intro _
   all_goals try exact clz
  |false=>
   rcases b4 with ⟨rfl,rfl⟩|⟨rfl,rfl⟩|⟨rfl,rfl⟩|⟨rfl,rfl⟩
   ·skip
    simp only [Bool.true_and,Bool.false_and,Bool.true_or,Bool.false_or]at hR
    rw [hR]
    simp (disch:=omega) only [List.replicate,strs,qE,k2,n1,n2,n3,n4,n5,n6,e1,e2,e3,e4,e5,e6,go_sem]
    repeat' first
     |((first|apply qd|apply qb);exact rvk;simp only [go_sem];first|exact VLe.refl _|apply qe|apply qa|apply qf|skip)
     |with_reducible first|apply And.intro|intro _
    all_goals try exact clz
   ·skip
    cases q6 with
    |true=>
     simp only [Bool.true_and,Bool.false_and,Bool.true_or,Bool.false_or]at hR
     rw [hR]
     simp (disch:=omega) only [List.replicate,strs,qE,k2,n1,n2,n3,n4,n5,n6,e1,e2,e3,e4,e5,e6,go_sem]
     repeat' first
      |((first|apply qd|apply qb);exact rvk;simp only [go_sem];first|exact VLe.refl _|apply qe|apply qa|apply qf|skip)
      |with_reducible first|apply And.intro|intro _
     all_goals try exact clz
    |false=>
     simp only [Bool.true_and,Bool.false_and,Bool.true_or,Bool.false_or]at hR
     rw [hR]
     simp (disch:=omega) only [List.replicate,strs,qE,k2,n1,n2,n3,n4,n5,n6,e1,e2,e3,e4,e5,e6,go_sem]
     repeat' first
      |((first|apply qd|apply qb);exact rvk;simp only [go_sem];first|exact VLe.refl _|apply qe|apply qa|apply qf|skip)
      |with_reducible first|apply And.intro|intro _
     all_goals try exact clz
   ·skip
    cases q6 with
    |true=>
     simp only [Bool.true_and,Bool.false_and,Bool.true_or,Bool.false_or]at hR
     rw [hR]
     simp (disch:=omega) only [List.replicate,strs,qE,k2,n1,n2,n3,n4,n5,n6,e1,e2,e3,e4,e5,e6,go_sem]
     repeat' first
      |((first|apply qd|apply qb);exact rvk;simp only [go_sem];first|exact VLe.refl _|apply qe|apply qa|apply qf|skip)
      |with_reducible first|apply And.intro|intro _
     all_goals try exact clz
    |false=>
     simp only [Bool.true_and,Bool.false_and,Bool.true_or,Bool.false_or]at hR
     rw [hR]
     simp (disch:=omega) only [List.replicate,strs,qE,k2,n1,n2,n3,n4,n5,n6,e1,e2,e3,e4,e5,e6,go_sem]
     repeat' first
      |((first|apply qd|apply qb);exact rvk;simp only [go_sem];first|exact VLe.refl _|apply qe|apply qa|apply qf|skip)
      |with_reducible first|apply And.intro|intro _
     all_goals try exact clz
   ·skip
    cases q6 with
    |true=>
     simp only [Bool.true_and,Bool.false_and,Bool.true_or,Bool.false_or]at hR
     rw [hR]
     simp (disch:=omega) only [List.replicate,strs,qE,k2,n1,n2,n3,n4,n5,n6,e1,e2,e3,e4,e5,e6,go_sem]
     repeat' first
      |((first|apply qd|apply qb);exact rvk;simp only [go_sem];first|exact VLe.refl _|apply qe|apply qa|apply qf|skip)
      |with_reducible first|apply And.intro|intro _
     all_goals try exact clz
    |false=>
     simp only [Bool.true_and,Bool.false_and,Bool.true_or,Bool.false_or]at hR
     rw [hR]
     simp (disch:=omega) only [List.replicate,strs,qE,k2,n1,n2,n3,n4,n5,n6,e1,e2,e3,e4,e5,e6,go_sem]
     repeat' first
      |((first|apply qd|apply qb);exact rvk;simp only [go_sem];first|exact VLe.refl _|apply qe|apply qa|apply qf|skip)
      |with_reducible first|apply And.intro|intro _
     all_goals try exact clz
structure CB (names:List Str) (gs:List Gr) (t:List Str) (l:List En):Prop where
 hn:names.length≤9223372036854775807
 hg:gs.length≤9223372036854775807
 ht:t.length≤9223372036854775807
 hl:l.length≤9223372036854775807
 he: ∀i,EnB (l.getD i default)
theorem qq1 {ws:List Str} {n:Nat} (h:gwB ws n=false):ws.length≤n∧ ∀i,(ws.getD i []).length≤20:=by
 unfold gwB at h
 rw [Bool.or_eq_false_iff,decide_eq_false_iff_not,qn]at h
 refine ⟨by omega,fun i=> ?_⟩
 by_cases hi:i<ws.length
 ·have:=of_decide_eq_false (h.1 i hi)
  omega
 ·rw [gdqA,List.getElem?_eq_none (by omega)]
  exact Nat.zero_le _
theorem qsU {names:List Str} {gs:List Gr} (h:qkQ names gs=false):names.length≤34∧gs.length≤18∧(∀i,(names.getD i []).length≤20)∧ ∀i,(gs.getD i default).name.length≤20∧(gs.getD i default).mem.length≤40:=by
 unfold qkQ at h
 simp only [Bool.or_eq_false_iff,decide_eq_false_iff_not,qn]at h
 obtain ⟨h1,h2,⟨⟨_,h3⟩,_⟩,h4⟩:=h
 refine ⟨by omega,by omega,fun i=> ?_,fun i=> ?_⟩
 ·by_cases hi:i<names.length
  ·have:=h1 i hi
   omega
  ·rw [gdqA,List.getElem?_eq_none (by omega)]
   exact Nat.zero_le _
 ·by_cases hi:i<gs.length
  ·have:=h2 i hi
   unfold grB at this
   simp only [Bool.or_eq_false_iff,decide_eq_false_iff_not]at this
   omega
  ·rw [gdqA,List.getElem?_eq_none (by omega)]
   exact ⟨Nat.zero_le _,Nat.zero_le _⟩
end RC
end
section
open Go Go.Proofs AF HY LN
namespace AF
theorem qat {v:Nat} {ty:TypeId} {cs:List AV} {n:Nat} (h: ∀c∈cs,jg n c=true):kX n (zT v ty cs):=by
 unfold zT
 split
 ·trivial
 ·exact h
end AF
namespace RC
set_option maxHeartbeats 8000000
theorem qh2 (L:List Str):(strs L).solid=true:=rfl
theorem qhc (L:List Str):(strs L).cells= [strs L]:=rfl
theorem qe3 {k v z p n:Nat} (L:List Str):qbI (.osl k v z p n) (strs L)=true:=rfl
attribute [go_sem] qh2 qhc qe3
theorem qcd {v:Nat} {L:List Str} {g:AV→AV} {n:Nat} (hg: ∀s,g (.str s)= .str s) (hn:n=L.length):VLe (qdY (some (zT v 9 (jj L))) v 1 0 n g) (strs L):=by
 subst hn
 by_cases h:L= []
 ·subst h
  show VLe (qdY (some (.emp v)) v 1 0 0 g) _
  rw [slOf_emp,if_pos rfl]
  exact kj
 ·have e0:zT v 9 (jj L)= .mem v 9 (jj L):=jw (fun e=>h (qpU.1 e))
  rw [e0,slOf_mem,if_pos ⟨rfl,by rw [jE];omega⟩]
  simp only [Nat.zero_add,Nat.mul_one]
  exact qpW g hg rfl
end RC
end
section
open Go Go.Proofs AF HY LN
namespace AF
theorem Wk.fzCell {t:List AV} {h:List AObj} {j k i v:Nat} {ty:TypeId} {cs:List AV} {c c':AV} (hj:qG j h=some (.mem v ty cs)) (hi:cs[i]? =some c) (hs:qI h k=true) (hne:j≠k) (hc:VLe (frz (fun b=> [k].contains b) h 8 c) c'):
  Wk t h t (qQ j (qQ k h (.emp (qu (qG k h)+1))) (.mem v ty (cs.set i c'))):=by
 intro N w σ a H
 have hs':kg [k] h=true:=by simp [kg,hs]
 obtain ⟨σ',g1,g2,g3,g4⟩:=qcz [k] H.hr hs'
 have hn:j∉ [k]:=by simp [hne]
 have frzv: ∀c x,VR w σ c x→VR w σ' (frz (fun b=> [k].contains b) h 8 c) x:=fun c x hx=>
  qgs H.hr (fun b hb=>(g4 b hb).elim fun j ⟨o,h1,h2,h3⟩=>⟨j,o,by simpa using h1,h2,h3⟩) (fun j o hj ho=>g3 j o (by simpa using hj) ho) 8 hx
 have hjl:j<σ.length:=by rw [H.hr.len];exact kM hj
 have ho:=zD hjl
 obtain ⟨m1,m2,b,arr,m3,m4,m5,m6,m7,m8⟩:=H.hr.obj j _ _ hj ho
 have q:=g1.recell (cs':=cs.set i c') ((qoN hn).trans hj) (g3 j _ hn ho) m3 m4 m5 (by simpa using m6) (fun n x hn hx=>m7 n x (by simpa using hn) hx) (fun n d x hd hx=>by
  rw [List.getElem?_set]at hd
  split at hd
  ·rename_i e
   subst e
   split at hd
   ·cases hd;exact hc _ _ _ (frzv _ x (m8 i _ x hi hx))
   ·cases hd
  ·exact (m8 n d x hd hx).ext g2)
 exact ⟨σ',⟨q,H.sz,fun n d x hd hx=>(H.tm n d x hd hx).ext g2,qaD g2 H.df⟩,g2⟩
theorem qb4 {h:List AObj} {k ve sz off n:Nat}:frz (fun b=> [k].contains b) h 8 (.osl k ve sz off n)=qdY (qG k h) ve sz off n (rei (fun b=> [k].contains b) h 7):=by
 rw [frz_osl,if_pos (by simp),rei_osl,if_pos (by simp)]
end AF
namespace RC
set_option maxHeartbeats 8000000
theorem qh0 (L:List Gr):(qE L).solid=true:=rfl
theorem qha (L:List Gr):(qE L).cells= [qE L]:=rfl
theorem qhZ (L:List En):(qaH L).solid=true:=rfl
theorem qg9 (L:List En):(qaH L).cells= [qaH L]:=rfl
theorem qml (names:List Str) (gs:List Gr) (e:En):(stV names gs e).solid=true:=rfl
theorem qj3 (names:List Str) (gs:List Gr) (e:En):(stV names gs e).cells= [stV names gs e]:=rfl
theorem qmj (names:List Str) (gs:List Gr) (L:List En):(msV names gs L).solid=true:=rfl
theorem qj1 (names:List Str) (gs:List Gr) (L:List En):(msV names gs L).cells= [msV names gs L]:=rfl
theorem qfF (L:List Int):(qo L).solid=true:=rfl
theorem qfc (L:List Int):(qo L).cells= [qo L]:=rfl
attribute [go_sem] qh0 qha qhZ qg9 qml qj3 qmj qj1 qfF qfc
theorem qpI {v n:Nat} {ty:TypeId} {L:List En} {fz:Nat→Bool} {h:List AObj} {d:Nat} (hn:n=L.length):VLe (qdY (some (.mem v ty (qbg L))) v 6 0 n (rei fz h (d+1))) (qaH L):=by
 subst hn
 rw [slOf_mem,if_pos ⟨rfl,by rw [qgk];omega⟩]
 refine VLe.sl_eq rfl (fun i hi=> ?_)
 simp only [Nat.zero_add]
 rw [qob hi]
 rfl
structure RSt where
 i:Nat
 v:Nat
 O4:AObj
 O5:AObj
 O6:AObj
 O7:AObj
 O9:AObj
end RC
end
section
open Go Go.Proofs AF HY LN
namespace RC
set_option maxHeartbeats 8000000
section
variable (names : List Str) (gs : List Gr) (t : List Str) (l : List En) (src : Int) (h : List AObj)
theorem qcc {v n:Nat} {L:List Int} {g:AV→AV} (hg: ∀s,g (.int .i64 s)= .int .i64 s) (hn:n=L.length):VLe (qdY (some (zT v 3 (qP L))) v 1 0 n g) (qo L):=by
 subst hn
 by_cases h:L= []
 ·subst h
  show VLe (qdY (some (.emp v)) v 1 0 0 g) _
  rw [slOf_emp,if_pos rfl]
  exact kj
 ·have e0:zT v 3 (qP L)= .mem v 3 (qP L):=jw (fun e=>h (qeo.1 e))
  rw [e0,slOf_mem,if_pos ⟨rfl,by rw [zR];omega⟩]
  simp only [Nat.zero_add,Nat.mul_one]
  exact qep g hg rfl
end
end RC
end
section
open Go Go.Proofs AF HY LN
namespace RC
set_option maxHeartbeats 8000000
end RC
end
section
open Go Go.Proofs AF HY LN
namespace RC
set_option maxHeartbeats 8000000
section
variable (names : List Str) (gs : List Gr) (t : List Str) (l : List En) (src : Int) (h : List AObj)
end
end RC
end
section
open Go Go.Proofs AF HY LN
namespace RC
set_option maxHeartbeats 8000000
end RC
end
section
open Go Go.Proofs AF HY LN
namespace RC
set_option maxHeartbeats 8000000
end RC
end
section
open Go Go.Proofs AF HY LN
namespace RC
set_option maxHeartbeats 8000000
end RC
end
section
open Go Go.Proofs AF HY LN
namespace RC
set_option maxHeartbeats 8000000
end RC
namespace RC
set_option maxHeartbeats 8000000
end RC
end
section
open Go Go.Proofs AF HY LN
namespace AF
structure quD (E:AV) (n:Nat) (cs:List AV):Prop where
 fl:E.flag=true
 st:E.strip=E
 vl: ∀g,valL g .len [E]= .int .i64 n
 ok: ∀g,okL g .len [E]=True
 sc: ∀g,qs g E=some (n,cs)
 ap: ∀k v z p m,qbI (.osl k v z p m) E=true
theorem quD.sl (n:Nat) (f:Nat→List AV):quD (.sl n f) n ((List.range n).flatMap f):=⟨rfl,rfl,fun _=>rfl,fun _=>eq_true trivial,fun _=>rfl,fun _ _ _ _ _=>rfl⟩
structure Src (h:List AObj) (e:AV) (n:Nat) (cs:List AV):Prop where
 flag:e.flag=true
 strip:e.strip=e
 lenOk: ∀X,okL (h++X) .len [e]=True
 len: ∀X,valL (h++X) .len [e]= .int .i64 n
 cells: ∀X,qs (h++X) e=some (n,cs)
 apart: ∀k v z p m,h.length≤k→qbI (.osl k v z p m) e=true
theorem qCm {P:Program} {f:FuncId} {args:List AV} {h h':List AObj} {r:AV} (ks:List Nat) (hs:kg ks h=true) (hc:ACalls P f (args.map (frz (fun k=>ks.contains k) h 8)) (qcP ks h) r h'):ACalls P f args h r h':=by
 refine ⟨hc.1,fun w σ xs H hv=> ?_⟩
 obtain ⟨σ',g1,g2,g3,g4⟩:=qcz ks H hs
 refine (hc.2 w σ' xs g1 ⟨by rw [hv.1];simp,fun i c x hcc hx=> ?_⟩).mono ?_
 ·rw [List.getElem?_map,Option.map_eq_some_iff]at hcc
  obtain ⟨c0,hcc,rfl⟩:=hcc
  exact qgs H (fun b hb=>(g4 b hb).elim fun j ⟨o,h1,h2,h3⟩=>⟨j,o,by simpa using h1,h2,h3⟩) (fun j o hj ho=>g3 j o (by simpa using hj) ho) 8 (hv.2 i c0 x hcc hx)
 ·rintro e w' ⟨v,σ2,rfl,k1,k2,k3⟩
  exact ⟨v,σ2,rfl,k1,k2,g2.trans k3⟩
end AF
namespace RC
set_option maxHeartbeats 8000000
theorem quD.strs (L:List Str):quD (strs L) L.length (jj L):=⟨rfl,rfl,fun _=>rfl,fun _=>eq_true trivial,fun g=>qpT g L,fun _ _ _ _ _=>rfl⟩
theorem quD.sub {t:List Str} {a b:Nat} (h1:a≤b) (h2:b≤t.length):quD (.sl (b-a) fun i=> [.str (t.getD (a+i) [])]) (kR t a b).length (jj (kR t a b)):=by
 rw [qdP h1 h2]
 exact ⟨rfl,rfl,fun _=>rfl,fun _=>eq_true trivial,fun g=>qmt g h1 h2,fun _ _ _ _ _=>rfl⟩
end RC
end
section
open Go Go.Proofs AF HY LN
namespace RC
set_option maxHeartbeats 8000000
end RC
end
section
open Go Go.Proofs AF HY LN
namespace RC
set_option maxHeartbeats 16000000
end RC
end
section
open Go Go.Proofs AF HY LN
namespace RC
set_option maxHeartbeats 8000000
def anN (a b:Nat):Nat:=a&&&(2^64-1-b)
theorem qqr (a b:Nat):anN a b≤a:=Nat.and_le_left
theorem qgb {a b:Nat} (ha:a<2^64) (hb:b<2^64):qe2 .u64 (a:Int) (b:Int)=((anN a b:Nat):Int):=by
 have hab:=qqr a b
 unfold qe2
 rw [show IntKind.bits IntKind.u64=64 from rfl,kp,kp,BitVec.toNat_and,BitVec.toNat_not,BitVec.toNat_ofNat,BitVec.toNat_ofNat,Nat.mod_eq_of_lt ha,Nat.mod_eq_of_lt hb]
 exact qbe (Int.natCast_nonneg _) (by unfold anN at hab;omega)
theorem qdl {a b:Nat} (ha:a<2^64) (hb:b<2^64) (i:Nat):(anN a b).testBit i=(a.testBit i&& !b.testBit i):=by
 unfold anN
 rw [Nat.testBit_and,show 2^64-1-b=2^64-(b+1) by omega,Nat.testBit_two_pow_sub_succ hb]
 by_cases hi:i<64
 ·simp [hi]
 ·rw [Nat.testBit_lt_two_pow (Nat.lt_of_lt_of_le ha (Nat.pow_le_pow_right (by omega) (by omega)))]
  rfl
def qnl (n:Nat):Nat:=(jA n.testBit 64).length
theorem qBI (n:Nat) (h:List AObj) (hn:n<256):ACalls Tryz.prog 199 [.int .u64 (n:Int)] h (.int .i64 (qnl n)) h:=by
 refine acO qwD ?_
 simp (disch:=omega) only [qvi,List.replicate,go_sem]
 repeat' first
  |((first|apply qd|apply qb);exact rvk;simp only [go_sem];first|exact VLe.refl _|apply qe|apply qa|apply qf|skip)
  |with_reducible first|apply And.intro|intro _
 all_goals try exact clz
 clear h
 revert n
 decide+kernel
def qfP (names:List Str) (gs:List Gr) (set:List Int):Int:=if sgE names gs=0 then qfD names.length set else 1
theorem qCO (names:List Str) (gs:List Gr) (set:List Int) (h:List AObj) (hz:Szs names gs) (hs:set.length≤1000000000):ACalls Tryz.prog 196 [strs names,qE gs,qo set] h (.int .i64 (qfP names gs set)) h:=by
 have c59:=fun h=>sgP names gs h hz
 have c92:=fun h=>qBJ set names.length h hs
 have zl: ∀g,valL g .len [strs names]= .int .i64 names.length:=fun _=>rfl
 have zo: ∀g,okL g .len [strs names]=True:=fun _=>eq_true trivial
 unfold qfP
 by_cases g:sgE names gs=0
 ·rw [if_pos g]
  simp only [g]at c59
  refine acO qqL ?_
  simp (disch:=omega) only [qrI,List.replicate,zl,zo,go_sem]
  repeat' first
   |((first|refine cA (c59 _) ?_ ?_|refine cG (fun e=>c59 _) ?_ ?_|refine cA (c92 _) ?_ ?_|refine cG (fun e=>c92 _) ?_ ?_|refine cU (fun _=>c59 _) ?_ ?_|refine cU (fun _=>c92 _) ?_ ?_);(next=>exact flk);simp (disch:=omega) only [zl,zo,go_sem])
   |((first|apply qd|apply qb);exact rvk;simp only [go_sem];first|exact VLe.refl _|apply qe|apply qa|apply qf|skip)
   |with_reducible first|apply And.intro|intro _
  all_goals try exact clz
 ·rw [if_neg g]
  have k:(sgE names gs=0)=False:=eq_false g
  refine acO qqL ?_
  simp (disch:=omega) only [qrI,List.replicate,zl,zo,k,go_sem]
  repeat' first
   |((first|refine cA (c59 _) ?_ ?_|refine cG (fun e=>c59 _) ?_ ?_|refine cA (c92 _) ?_ ?_|refine cG (fun e=>c92 _) ?_ ?_|refine cU (fun _=>c59 _) ?_ ?_|refine cU (fun _=>c92 _) ?_ ?_);(next=>exact flk);simp (disch:=omega) only [zl,zo,k,go_sem])
   |((first|apply qd|apply qb);exact rvk;simp only [go_sem];first|exact VLe.refl _|apply qe|apply qa|apply qf|skip)
   |with_reducible first|apply And.intro|intro _
  all_goals try exact clz
theorem qkW {names:List Str} {gs:List Gr} (h:sgE names gs=0) (i:Nat):inB 64 (gs.getD i default).mem:=by
 have h:=qcH h
 by_cases hi:i<gs.length
 ·intro j hj
  have:=(qbA (qfo h hi)).1 j hj
  have:=h.n32
  omega
 ·rw [gdqA,List.getElem?_eq_none (by omega)]
  intro j hj
  exact absurd hj (by simp [show (default:Gr).mem= []from rfl])
def qiD (gs:List Gr) (all:Nat) (i:Nat):Bool:=decide (anN (jr (gs.getD i default).mem) all=0)
def kS (gs:List Gr) (all:Nat):List Int:=jA (qiD gs all) gs.length
theorem qC1 (gs:List Gr) (all:Nat) (h:List AObj) (hg:gs.length≤1000000) (hm: ∀i,inB 64 (gs.getD i default).mem) (hl: ∀i,(gs.getD i default).mem.length≤1000000000) (ha:all<2^64):ACalls Tryz.prog 197 [qE gs,.int .u64 (all:Int)] h (qo (kS gs all)) h:=by
 unfold kS
 have zl: ∀g,valL g .len [qE gs]= .int .i64 gs.length:=fun _=>rfl
 have zo: ∀g,okL g .len [qE gs]=True:=fun _=>eq_true trivial
 refine acO qwB ?_
 simp (disch:=omega) only [qvg,List.replicate,zl,zo,go_sem]
 repeat' first
  |((first|apply qd|apply qb);exact rvk;simp only [go_sem];first|exact VLe.refl _|apply qe|apply qa|apply qf|skip)
  |with_reducible first|apply And.intro|intro _
 all_goals try exact clz
 refine qt (T:=fun i:Nat×Nat×AObj×AObj=>qU 27 [(1,.int .u64 (all:Int)),(5,.osl (h.length+1) i.2.1 1 0 (jA (qiD gs all) i.1).length),(8,qE gs),(9,.int .i64 gs.length),(10,.int .i64 i.1)])
  (H:=fun i=>h++ [.emp 1,zT i.2.1 3 (qP (jA (qiD gs all) i.1)),i.2.2.1,i.2.2.2,.emp 0])
  (inv:=fun i=>i.1≤gs.length∧qI [i.2.2.1] 0=true∧qI [i.2.2.2] 0=true) (m:=fun i=>gs.length-i.1) (0,1,.emp 0,.emp 0) ⟨Nat.zero_le _,rfl,rfl⟩ (Wk.temps ?_) ?_
 ·(simp only [jA,List.range_zero,List.filter_nil,List.length_nil,List.replicate,go_sem,qk,qi,qg,qj];try (repeat' first|(with_reducible apply And.intro)|(apply qe;omega)|(apply qa;rfl)|exact VLe.refl _))
 rintro ⟨i,v,O2,O3⟩ ⟨i1,i2,i3⟩ K hK
 simp only at i1 i2 i3 hK
 have i2': ∀m,qI (O2::m) 0=true:=fun _=>i2
 have i3': ∀m,qI (O3::m) 0=true:=fun _=>i3
 have hst:=qeu (qiD gs all) i
 have hln:=ji (qiD gs all) i
 obtain ⟨L,hL⟩: ∃L,L=jA (qiD gs all) i:=⟨_,rfl⟩
 rw [←hL]at hst hln
 have eL:=hL.symm
 have eC:=zR L
 by_cases hi:i<gs.length
 ·have k1:((i:Int)<gs.length)=True:=eq_true (by omega)
  have c96:=fun h=>qzk (gs.getD i default).mem h (hl i) (hm i)
  have hlt:=qbP (hm i)
  have hB:qiD gs all i=decide (anN (jr (gs.getD i default).mem) all=0):=rfl
  obtain ⟨gr,hgr⟩: ∃gr,gr=gs.getD i default:=⟨_,rfl⟩
  have egr:=hgr.symm
  simp only [egr]at c96 hB
  rw [egr]at hlt
  have hd:=qgb hlt ha
  obtain ⟨q,hq⟩: ∃q,q=anN (jr gr.mem) all:=⟨_,rfl⟩
  rw [←hq]at hd hB
  have eTk:List.take L.length (qP L)=qP L:=List.take_of_length_le (by omega)
  by_cases g0:q=0
  ·have k2:((q:Int)=0)=True:=eq_true (by omega)
   rw [if_pos (by rw [hB];exact decide_eq_true g0)]at hst
   simp (disch:=omega) only [List.replicate,qE,grC,k1,i2',i3',eL,egr,Nat.mul_one,go_sem]
   repeat' first
    |((first|refine cA (c96 _) ?_ ?_|refine cG (fun e=>c96 _) ?_ ?_|refine cU (fun _=>c96 _) ?_ ?_);(next=>exact flk);simp (disch:=omega) only [qE,grC,k1,k2,i2',i3',eL,egr,hd,eC,eTk,Nat.mul_one,go_sem])
    |((first|apply qd|apply qb);exact rvk;simp only [go_sem];first|exact VLe.refl _|apply qe|apply qa|apply qf|skip)
    |with_reducible first|apply And.intro|intro _
   all_goals try exact clz
   have eA:qP L++ [AV.int .i64 (i:Int)]=qP (jA (qiD gs all) (i+1)):=by rw [hst,jO];rfl
   rw [eA]
   refine hK _ _ (i+1,v+1,.mem (qu (some O2)+1) 167 (grC gr),.mem (qu (some O3)+1) 3 [.int .i64 (i:Int)]) ⟨hi,rfl,rfl⟩ (by simp only;omega) ?_
   simp only [hst,List.length_append,List.length_cons,List.length_nil]
   refine Wk.temps ?_
   (simp only [List.replicate,go_sem,qk,qi,qg,qj];try (repeat' first|(with_reducible apply And.intro)|(apply qe;omega)|(apply qa;rfl)|exact VLe.refl _))
  ·have k2:((q:Int)=0)=False:=eq_false (by omega)
   rw [if_neg (by rw [hB];simpa using g0),List.append_nil]at hst
   simp (disch:=omega) only [List.replicate,qE,grC,k1,i2',eL,egr,go_sem]
   repeat' first
    |((first|refine cA (c96 _) ?_ ?_|refine cG (fun e=>c96 _) ?_ ?_|refine cU (fun _=>c96 _) ?_ ?_);(next=>exact flk);simp (disch:=omega) only [qE,grC,k1,k2,i2',eL,egr,hd,go_sem])
    |((first|apply qd|apply qb);exact rvk;simp only [go_sem];first|exact VLe.refl _|apply qe|apply qa|apply qf|skip)
    |with_reducible first|apply And.intro|intro _
   all_goals try exact clz
   refine hK _ _ (i+1,v,.mem (qu (some O2)+1) 167 (grC gr),O3) ⟨hi,rfl,i3⟩ (by simp only;omega) ?_
   simp only [hst]
   refine Wk.temps ?_
   (simp only [List.replicate,go_sem,qk,qi,qg,qj];try (repeat' first|(with_reducible apply And.intro)|(apply qe;omega)|(apply qa;rfl)|exact VLe.refl _))
 ·obtain rfl:i=gs.length:=by omega
  have k1:((gs.length:Int)<gs.length)=False:=eq_false (by omega)
  rw [eL]
  simp (disch:=omega) only [List.replicate,k1,eL,go_sem]
  repeat' first
   |((first|apply qd|apply qb);exact rvk;simp only [go_sem];first|exact VLe.refl _|apply qe|apply qa|apply qf|skip)
   |with_reducible first|apply And.intro|intro _
  all_goals try exact clz
  exact qcc (fun _=>rfl) rfl
def qqz (a b:List Int):Int:=qbn (fun i=>qqy (a.getD i 0) (b.getD i 0)) 0 a.length
theorem qCb (a b:List Int) (h:List AObj) (hl:a.length=b.length) (ha:a.length≤1000000000):ACalls Tryz.prog 66 [qo a,qo b] h (.int .i64 (qqz a b)) h:=by
 obtain ⟨R,hR⟩: ∃R,R=qqz a b:=⟨_,rfl⟩
 rw [←hR]
 unfold qqz at hR
 have z1: ∀g,valL g .len [qo a]= .int .i64 a.length:=fun _=>rfl
 have z2: ∀g,okL g .len [qo a]=True:=fun _=>eq_true trivial
 have z3: ∀g,valL g .len [qo b]= .int .i64 a.length:=fun _=>by rw [hl];rfl
 have z4: ∀g,okL g .len [qo b]=True:=fun _=>eq_true trivial
 refine acO qz5 ?_
 simp (disch:=omega) only [qBq,List.replicate,z1,z2,go_sem]
 repeat' first
  |((first|apply qd|apply qb);exact rvk;simp only [go_sem];first|exact VLe.refl _|apply qe|apply qa|apply qf|skip)
  |with_reducible first|apply And.intro|intro _
 all_goals try exact clz
 refine qt (T:=fun i:Nat=>qU 36 [(0,qo a),(1,qo b),(9,qo a),(10,.int .i64 a.length),(11,.int .i64 i)]) (H:=fun _=>h) (inv:=fun i=>i≤a.length∧ ∀j,j<i→(fun i=>qqy (a.getD i 0) (b.getD i 0)) j=0) (m:=fun i=>a.length-i) 0 ⟨Nat.zero_le _,fun j hj=>by omega⟩ (Wk.temps ?_) ?_
 ·(simp only [List.replicate,go_sem,qk,qi,qg,qj];try (repeat' first|(with_reducible apply And.intro)|(apply qe;omega)|(apply qa;rfl)|exact VLe.refl _))
 rintro i ⟨i1,i2⟩ K hK
 by_cases hi:i<a.length
 ·have k1:((i:Int)<a.length)=True:=eq_true (by omega)
  have k2:((a.length:Int)≤i)=False:=eq_false (by omega)
  have k3:((i:Int)<b.length)=True:=eq_true (by omega)
  have hE:=jo (f:=fun i=>qqy (a.getD i 0) (b.getD i 0)) hi i2
  have c122:=fun h=>qCc (a.getD i 0) (b.getD i 0) h
  have k4:((b.length:Int)≤i)=False:=eq_false (by omega)
  by_cases g:qqy (a.getD i 0) (b.getD i 0)=0
  ·simp only [g]at c122
   simp (disch:=omega) only [List.replicate,qo,k1,k2,k3,k4,go_sem]
   repeat' first
    |((first|refine cA (c122 _) ?_ ?_|refine cG (fun e=>c122 _) ?_ ?_|refine cU (fun _=>c122 _) ?_ ?_);(next=>exact flk);simp (disch:=omega) only [qo,k1,k2,k3,k4,go_sem])
    |((first|apply qd|apply qb);exact rvk;simp only [go_sem];first|exact VLe.refl _|apply qe|apply qa|apply qf|skip)
    |with_reducible first|apply And.intro|intro _
   all_goals try exact clz
   refine hK _ _ (i+1) ⟨hi,fun j hj=> ?_⟩ (by omega) (Wk.temps ?_)
   ·by_cases e:j=i
    ·subst e;exact g
    ·exact i2 j (by omega)
   ·(simp only [List.replicate,qo,go_sem,qk,qi,qg,qj];try (repeat' first|(with_reducible apply And.intro)|(apply qe;omega)|(apply qa;rfl)|exact VLe.refl _))
  ·have k5:(qqy (a.getD i 0) (b.getD i 0)=0)=False:=eq_false g
   rw [hR,hE g]
   simp (disch:=omega) only [List.replicate,qo,k1,k2,k3,k4,go_sem]
   repeat' first
    |((first|refine cA (c122 _) ?_ ?_|refine cG (fun e=>c122 _) ?_ ?_|refine cU (fun _=>c122 _) ?_ ?_);(next=>exact flk);simp (disch:=omega) only [qo,k1,k2,k3,k4,k5,go_sem])
    |((first|apply qd|apply qb);exact rvk;simp only [go_sem];first|exact VLe.refl _|apply qe|apply qa|apply qf|skip)
    |with_reducible first|apply And.intro|intro _
   all_goals try exact clz
 ·have k1:((i:Int)<a.length)=False:=eq_false (by omega)
  have hz:=zG (f:=fun i=>qqy (a.getD i 0) (b.getD i 0)) (n:=a.length) (fun j hj=>i2 j (by omega))
  rw [hR,hz]
  have k2:((a.length:Int)<a.length)=False:=eq_false (by omega)
  simp (disch:=omega) only [List.replicate,z1,z2,z3,z4,k1,go_sem]
  repeat' first
   |((first|apply qd|apply qb);exact rvk;simp only [go_sem];first|exact VLe.refl _|apply qe|apply qa|apply qf|skip)
   |with_reducible first|apply And.intro|intro _
  all_goals try exact clz
end RC
end
section
open Go Go.Proofs AF HY LN
namespace RC
set_option maxHeartbeats 8000000
def jT (ms:List Nat):AV:= .sl ms.length fun i=> [.int .u64 ((ms.getD i 0:Nat):Int)]
theorem qhu (L:List Nat):(jT L).flag=true:=rfl
theorem qfV (L:List Nat):(jT L).strip=jT L:=rfl
theorem qfI (L:List Nat):(jT L).solid=true:=rfl
theorem qff (L:List Nat):(jT L).cells= [jT L]:=rfl
attribute [go_sem] qhu qfV qfI qff
def qiG (ms:List Nat) (c:Nat):Nat→Nat
 |0=>0
 |i+1=>if c.testBit i=true then qiG ms c i|||ms.getD i 0 else qiG ms c i
theorem qey (ms:List Nat) (c i:Nat):qiG ms c (i+1)=if c.testBit i=true then qiG ms c i|||ms.getD i 0 else qiG ms c i:=rfl
def chN (ms:List Nat) (c:Nat):Nat:=qiG ms c ms.length
theorem qla {ms:List Nat} (hm: ∀i,ms.getD i 0<2^64) (c:Nat): ∀i,qiG ms c i<2^64:=by
 intro i
 induction i with
 |zero=>show (0:Nat)<2^64;decide
 |succ i ih=>
  unfold qiG
  split
  ·exact Nat.or_lt_two_pow ih (hm i)
  ·exact ih
theorem qoR (ms:List Nat) (c j:Nat): ∀i,(qiG ms c i).testBit j=qZ (fun k=>c.testBit k&&(ms.getD k 0).testBit j) i:=by
 intro i
 induction i with
 |zero=>show (0:Nat).testBit j=_;rw [Nat.zero_testBit];rfl
 |succ i ih=>
  have e:qZ (fun k=>c.testBit k&&(ms.getD k 0).testBit j) (i+1)=(qZ (fun k=>c.testBit k&&(ms.getD k 0).testBit j) i||(c.testBit i&&(ms.getD i 0).testBit j)):=by
   rw [Bool.eq_iff_iff,Bool.or_eq_true,qF,qF]
   constructor
   ·rintro ⟨k,h1,h2⟩
    by_cases e:k=i
    ·subst e;exact .inr h2
    ·exact .inl ⟨k,by omega,h2⟩
   ·rintro (⟨k,h1,h2⟩|h)
    ·exact ⟨k,by omega,h2⟩
    ·exact ⟨i,by omega,h⟩
  rw [e,←ih,qey]
  split
  ·rename_i h
   rw [Nat.testBit_or,h,Bool.true_and]
  ·rename_i h
   rw [Bool.not_eq_true]at h
   rw [h,Bool.false_and,Bool.or_false]
theorem qqx {ms:List Nat} (hm: ∀i,ms.getD i 0<2^64) (c:Nat):chN ms c<2^64:=qla hm c _
def qni (ms:List Nat):List (List AV):=(List.range (2^ms.length)).map fun c=> [.int .u64 ((c:Nat):Int),.int .u64 ((chN ms c:Nat):Int)]
theorem qdp (ms:List Nat):(qni ms).length=2^ms.length:=by simp [qni]
theorem qgh {ms:List Nat} {i:Nat} (hi:i<(qni ms).length):(qni ms)[i]= [.int .u64 ((i:Nat):Int),.int .u64 ((chN ms i:Nat):Int)]:=by
 simp [qni]
theorem qnW (ms:List Nat): ∀a∈qni ms,a.length=2:=by
 intro a ha
 unfold qni at ha
 obtain ⟨_,_,rfl⟩:=List.mem_map.1 ha
 rfl
theorem qB9 (ms:List Nat) (h:List AObj):ACalls Tryz.prog 198 [jT ms] h (.fn (.func 245) [] [.ip [jT ms]]) h:=by
 refine acO qwC ?_
 simp (disch:=omega) only [qvh,List.replicate,go_sem]
 repeat' first
  |((first|apply qd|apply qb);exact rvk;simp only [go_sem];first|exact VLe.refl _|apply qe|apply qa|apply qf|skip)
  |with_reducible first|apply And.intro|intro _
 all_goals try exact clz
set_option maxHeartbeats 16000000 in
theorem itC (ms:List Nat) (hl:ms.length≤16) (hm: ∀i,ms.getD i 0<2^64):quA Tryz.prog 245 [.ip [jT ms]] (qni ms):=by
 intro h ts LI S E hS hE body start hts
 have zl: ∀g,valL g .len [jT ms]= .int .i64 ms.length:=fun _=>rfl
 have zo: ∀g,okL g .len [jT ms]=True:=fun _=>eq_true trivial
 have hsh:=qfE (n:=ms.length) (by omega)
 have hp:2^ms.length≤2^16:=Nat.pow_le_pow_right (by omega) hl
 have hxl:=qdp ms
 obtain ⟨N,hN⟩: ∃N,N=2^ms.length:=⟨_,rfl⟩
 rw [←hN]at hsh hp hxl
 refine acQ qwP ?_
 simp (disch:=omega) only [qvt,List.replicate,zl,zo,hsh,go_sem]
 repeat' first
  |((first|apply qd|apply qb);exact rvk;simp only [go_sem];first|exact VLe.refl _|apply qe|apply qa|apply qf|skip)
  |with_reducible first|apply And.intro|intro _
 all_goals try exact clz
 refine qt (T:=fun i:Nat×List AObj=>qU 35 [(0,.yld h.length),(1,.ip [jT ms]),(9,.int .u64 ((N:Nat):Int)),(10,.int .u64 ((i.1:Nat):Int))])
  (H:=fun i=>i.2++ [.lp .ready ts LI])
  (inv:=fun i=>i.1≤N∧S i.1 i.2) (m:=fun i=>N-i.1) (0,h) ⟨Nat.zero_le _,start⟩ (Wk.temps ?_) ?_
 ·(simp only [List.replicate,go_sem,qk,qi,qg,qj];try (repeat' first|(with_reducible apply And.intro)|(apply qe;omega)|(apply qa;rfl)|exact VLe.refl _))
 rintro ⟨i,hh⟩ ⟨i1,i2⟩ K hK
 simp only at i1 i2 hK
 obtain ⟨hlen,hlow⟩:=hS _ _ i2
 have hb:(h++ [AObj.lp LS.ready ts LI]).length=(hh++ [AObj.lp LS.ready ts LI]).length:=by simp [hlen]
 rw [hb]
 by_cases hi:i<N
 ·have q0:((i:Int)<N)=True:=eq_true (by omega)
  have hix:i<(qni ms).length:=by omega
  have hb':=body i hh [] hix i2
  rw [qgh hix]at hb'
  simp (disch:=omega) only [List.replicate,q0,zl,zo,go_sem]
  repeat' first
   |((first|apply qd|apply qb);exact rvk;simp only [go_sem];first|exact VLe.refl _|apply qe|apply qa|apply qf|skip)
   |with_reducible first|apply And.intro|intro _
  all_goals try exact clz
  have hclt:i<2^64:=by omega
  have hml:=qla hm i
  refine qt (T:=fun j:Nat=>qU 35 [(0,.yld (hh++ [AObj.lp LS.ready ts LI]).length.pred),(1,.ip [jT ms]),(3,.int .u64 ((i:Nat):Int)),(4,.int .u64 ((qiG ms i j:Nat):Int)),(9,.int .u64 ((N:Nat):Int)),(10,.int .u64 ((i:Nat):Int)),(13,jT ms),(14,.int .i64 ms.length),(15,.int .i64 j)])
   (H:=fun _=>hh++ [.lp .ready ts LI]) (inv:=fun j=>j≤ms.length) (m:=fun j=>ms.length-j) 0 (Nat.zero_le _) (Wk.temps ?_) ?_
  ·have e2:(hh++ [AObj.lp LS.ready ts LI]).length.pred=h.length:=by simp [hlen]
   rw [e2]
   (simp only [List.replicate,qiG,go_sem,qk,qi,qg,qj];try (repeat' first|(with_reducible apply And.intro)|(apply qe;omega)|(apply qa;rfl)|exact VLe.refl _))
  have e2:(hh++ [AObj.lp LS.ready ts LI]).length.pred=h.length:=by simp [hlen]
  rw [e2]
  rintro j j1 K2 hK2
  by_cases hj:j<ms.length
  ·have q1:((j:Int)<ms.length)=True:=eq_true (by omega)
   have e1:=qjA (a:=i) (n:=j) hclt (by omega)
   have eo:=qgA (hml j) (hm j)
   have hs:=qey ms i j
   have q2:(0≤(j:Int))=True:=eq_true (by omega)
   cases g:i.testBit j with
   |true=>
    rw [g,if_pos rfl]at e1
    rw [g,if_pos rfl]at hs
    simp (disch:=omega) only [List.replicate,jT,q1,q2,e1,go_sem]
    repeat' first
     |((first|apply qd|apply qb);exact rvk;simp only [go_sem];first|exact VLe.refl _|apply qe|apply qa|apply qf|skip)
     |with_reducible first|apply And.intro|intro _
    all_goals try exact clz
    refine hK2 _ _ (j+1) hj (by omega) ?_
    simp only [hs]
    refine Wk.temps ?_
    (simp only [List.replicate,jT,go_sem,qk,qi,qg,qj];try (repeat' first|(with_reducible apply And.intro)|(apply qe;omega)|(apply qa;rfl)|exact VLe.refl _))
   |false=>
    rw [g,if_neg (by simp)]at e1
    rw [g,if_neg (by simp)]at hs
    simp (disch:=omega) only [List.replicate,jT,q1,q2,e1,go_sem]
    repeat' first
     |((first|apply qd|apply qb);exact rvk;simp only [go_sem];first|exact VLe.refl _|apply qe|apply qa|apply qf|skip)
     |with_reducible first|apply And.intro|intro _
    all_goals try exact clz
    refine hK2 _ _ (j+1) hj (by omega) ?_
    simp only [hs]
    refine Wk.temps ?_
    (simp only [List.replicate,jT,go_sem,qk,qi,qg,qj];try (repeat' first|(with_reducible apply And.intro)|(apply qe;omega)|(apply qa;rfl)|exact VLe.refl _))
  ·obtain rfl:j=ms.length:=by omega
   have q1:((ms.length:Int)<ms.length)=False:=eq_false (by omega)
   have hch:qiG ms i ms.length=chN ms i:=rfl
   rw [hch]
   simp (disch:=omega) only [List.replicate,q1,go_sem]
   repeat' first
    |((first|apply qd|apply qb);exact rvk;simp only [go_sem];first|exact VLe.refl _|apply qe|apply qa|apply qf|skip)
    |with_reducible first|apply And.intro|intro _
   all_goals try exact clz
   ·exact ⟨.ready,ts,LI,km hlen⟩
   ·refine kh.mono ?_ hb'
    rintro v h' ⟨hh',⟨rfl,hn,rfl⟩|⟨st,rfl,hs',rfl⟩⟩
    ·simp (disch:=omega) only [go_sem]
     repeat' first
      |((first|apply qd|apply qb);exact rvk;simp only [go_sem];first|exact VLe.refl _|apply qe|apply qa|apply qf|skip)
      |with_reducible first|apply And.intro|intro _
     all_goals try exact clz
     refine hK _ _ (i+1,hh') ⟨hi,hn⟩ (by simp only;omega) (Wk.temps ?_)
     (simp only [List.replicate,go_sem,qk,qi,qg,qj];try (repeat' first|(with_reducible apply And.intro)|(apply qe;omega)|(apply qa;rfl)|exact VLe.refl _))
     rw [qbe (by omega) (by omega)]
     exact qe (by omega)
    ·simp (disch:=omega) only [go_sem]
     obtain ⟨r1,r2⟩:=(hE _ _ hs').ret (L:=LI) st hts
     exact kl trivial r1 r2 ⟨_,.inr ⟨st,hs',rfl⟩⟩ (VLe.refl _)
 ·have e:i=N:=by omega
  subst e
  have q0:((i:Int)<i)=False:=eq_false (by omega)
  simp (disch:=omega) only [List.replicate,q0,go_sem]
  repeat' first
   |((first|apply qd|apply qb);exact rvk;simp only [go_sem];first|exact VLe.refl _|apply qe|apply qa|apply qf|skip)
   |with_reducible first|apply And.intro|intro _
  all_goals try exact clz
  obtain ⟨r1,r2⟩:=(hS _ _ i2).ret (L:=LI) .ready hts
  exact kl trivial r1 r2 ⟨hh,.inl ⟨by rw [hxl];exact i2,rfl⟩⟩ (VLe.refl _)
end RC
end
section
open Go Go.Proofs AF HY LN
namespace RC
set_option maxHeartbeats 8000000
def usM (gs:List Gr) (L:List Int):List Nat:=L.map fun i=>jr (gs.getD i.toNat default).mem
theorem qfZ (gs:List Gr) (L:List Int):(usM gs L).length=L.length:=by simp [usM]
theorem qfY {gs:List Gr} {L:List Int} {i:Nat} (hi:i<L.length):(usM gs L).getD i 0=jr (gs.getD (L.getD i 0).toNat default).mem:=by
 unfold usM
 rw [gdqA,List.getElem?_map,zD hi,gdqA (l:=L),zD hi]
 rfl
theorem qrh {gs:List Gr} (hm: ∀i,inB 64 (gs.getD i default).mem) (L:List Int) (i:Nat):(usM gs L).getD i 0<2^64:=by
 by_cases hi:i<L.length
 ·rw [qfY hi];exact qbP (hm _)
 ·rw [gdqA,List.getElem?_eq_none (by rw [qfZ];omega)]
  show (0:Nat)<2^64
  decide
def ky (gs:List Gr) (all:Nat) (L:List Int) (c:Nat):List Int:=
 (jA c.testBit 64).map (fun k=>L.getD k.toNat 0)++(jA (anN all (chN (usM gs L) c)).testBit 64).map (fun s=>(gs.length:Int)+s)
theorem qdE (gs:List Gr) (all:Nat) (L:List Int) (c:Nat):(ky gs all L c).length=qnl c+qnl (anN all (chN (usM gs L) c)):=by
 unfold ky qnl
 rw [List.length_append,List.length_map,List.length_map]
def quH (a b:List Int):Bool:=decide (a.length<b.length)||decide (a.length=b.length)&&decide (qqz a b<0)
def bst (gs:List Gr) (all:Nat) (L:List Int):Nat→List Int
 |0=>ky gs all L 0
 |c+1=>if quH (ky gs all L (c+1)) (bst gs all L c)=true then ky gs all L (c+1) else bst gs all L c
theorem qjE (gs:List Gr) (all:Nat) (L:List Int): ∀c,∃k,k≤c∧bst gs all L c=ky gs all L k:=by
 intro c
 induction c with
 |zero=>exact ⟨0,Nat.le_refl _,rfl⟩
 |succ c ih=>
  obtain ⟨k,h1,h2⟩:=ih
  unfold bst
  split
  ·exact ⟨c+1,Nat.le_refl _,rfl⟩
  ·exact ⟨k,by omega,h2⟩
def qzh (gs:List Gr) (all:Nat):List Int:=bst gs all (kS gs all) (2^(kS gs all).length-1)
def qax (names:List Str) (gs:List Gr) (p:Int):Str:=if p<gs.length then (gs.getD p.toNat default).name else names.getD (p-gs.length).toNat []
def shR (names:List Str) (gs:List Gr) (set:List Int):List Str:=if qfP names gs set=0 then (qzh gs (jr set)).map (qax names gs) else []
theorem qaL {c n k:Nat} (hc:c<2^n) (hk:c.testBit k=true):k<n:=by
 by_cases h:k<n
 ·exact h
 ·rw [Nat.testBit_lt_two_pow (Nat.lt_of_lt_of_le hc (Nat.pow_le_pow_right (by omega) (by omega)))]at hk
  cases hk
theorem zV {p:Nat→Bool} {n:Nat} {x:Int} (h:x∈jA p n): ∃k:Nat,x=(k:Int)∧k<n∧p k=true:=by
 unfold jA at h
 obtain ⟨k,h1,rfl⟩:=List.mem_map.1 h
 obtain ⟨h2,h3⟩:=List.mem_filter.1 h1
 exact ⟨k,rfl,List.mem_range.1 h2,h3⟩
theorem qlc {set:List Int} {n:Nat} (hn:n≤64) (h:inB n set):jr set<2^n:=by
 have h64:inB 64 set:=fun i hi=>by have:=h i hi;omega
 refine Nat.lt_pow_two_of_testBit _ fun i hi=> ?_
 rw [jv h64]
 refine decide_eq_false fun hm=> ?_
 have:=kN h _ hm
 omega
theorem qqs {a b n:Nat} (h:a<2^n):anN a b<2^n:=Nat.lt_of_le_of_lt (qqr a b) h
theorem qf9 {gs:List Gr} {all:Nat} {x:Int} (h:x∈kS gs all): ∃k:Nat,x=(k:Int)∧k<gs.length:=by
 obtain ⟨k,h1,h2,_⟩:=zV h
 exact ⟨k,h1,h2⟩
theorem qrb {names:List Str} {gs:List Gr} {set:List Int} {all:Nat} (hs:inB names.length set) (hn:names.length≤64) (ha:all=jr set) {c:Nat} (hc:c<2^(kS gs all).length) {p:Int} (hp:p∈ky gs all (kS gs all) c):0≤p∧p<gs.length+names.length:=by
 unfold ky at hp
 rcases List.mem_append.1 hp with hp|hp
 ·obtain ⟨k,h1,rfl⟩:=List.mem_map.1 hp
  obtain ⟨k',rfl,h2,h3⟩:=zV h1
  have hk:=qaL hc h3
  have hm:(kS gs all).getD k' 0∈kS gs all:=by
   rw [gdqA,zD hk];exact List.getElem_mem hk
  obtain ⟨g,e,hg⟩:=qf9 hm
  rw [Int.toNat_natCast,e]
  omega
 ·obtain ⟨k,h1,rfl⟩:=List.mem_map.1 hp
  obtain ⟨k',rfl,h2,h3⟩:=zV h1
  have:=qaL (qqs (b:=chN (usM gs (kS gs all)) c) (by rw [ha];exact qlc hn hs)) h3
  omega
end RC
end
