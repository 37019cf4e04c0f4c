import Derived.Test.YtgoandblgcjleaaGreatDoorK9
import Derived.Test.YtgoandblgcjleaaGreatDoorK3
import Derived.Test.YtgoandblgcjleaaGreatDoorK5
import Derived.Test.YtgoandblgcjleaaGreatDoorK8
import Derived.Test.YtgoandblgcjleaaGreatDoorProg
set_option linter.all false
set_option linter.unusedSimpArgs false
set_option linter.unusedVariables false
set_option linter.unusedSectionVars false
set_option maxHeartbeats 64000000
set_option maxRecDepth 100000
section
open Go Go.Proofs AF HY LN
namespace RC
structure Tk where
 text:Str
 norm:Str
 page:Str
 line:Int
 flags:Int
 name:Str
 deriving Inhabited, DecidableEq
def tkC (t:Tk):List AV:= [.str t.text,.str t.norm,.str t.page,.int .i64 t.line,.int .i64 t.flags,.str t.name]
def jL (l:List Tk):AV:= .sl l.length fun i=>tkC (l.getD i default)
def qq (L:List (List Tk)):AV:= .sl L.length fun i=> [jL (L.getD i [])]
def qn (L:List (List Int)):AV:= .sl L.length fun i=> [qo (L.getD i [])]
structure Co where
 sec:Str
 sig:List Str
 tok:List (List Tk)
 col:List (List Int)
 deriving Inhabited
def coC (x:Co):List AV:= [.str x.sec,strs x.sig,qq x.tok,qn x.col]
structure Rd where
 words:List Str
 src:List Int
 deriving Inhabited, DecidableEq
def rdC (r:Rd):List AV:= [strs r.words,qo r.src]
def zD (l:List Rd):AV:= .sl l.length fun i=>rdC (l.getD i default)
structure Un where
 frm:Int
 to:Int
 rds:List Rd
 deriving Inhabited, DecidableEq
def unC (u:Un):List AV:= [.int .i64 u.frm,.int .i64 u.to,zD u.rds]
def qz (l:List Un):AV:= .sl l.length fun i=>unC (l.getD i default)
structure Wd where
 text:Str
 col:Int
 unit:Int
 dec:Int
 joined:Bool
 verse:Bool
 name:Str
 deriving Inhabited, DecidableEq
def wdC (w:Wd):List AV:= [.str w.text,.int .i64 w.col,.int .i64 w.unit,.int .i64 w.dec,.bool w.joined,.bool w.verse,.str w.name]
def qK (l:List Wd):AV:= .sl l.length fun i=>wdC (l.getD i default)
theorem flag_tksV (L:List Tk):(jL L).flag=true:=rfl
theorem strip_tksV (L:List Tk):(jL L).strip=jL L:=rfl
theorem flag_tkssV (L:List (List Tk)):(qq L).flag=true:=rfl
theorem strip_tkssV (L:List (List Tk)):(qq L).strip=qq L:=rfl
theorem flag_colsV (L:List (List Int)):(qn L).flag=true:=rfl
theorem strip_colsV (L:List (List Int)):(qn L).strip=qn L:=rfl
theorem flag_rdsV (L:List Rd):(zD L).flag=true:=rfl
theorem strip_rdsV (L:List Rd):(zD L).strip=zD L:=rfl
theorem flag_unsV (L:List Un):(qz L).flag=true:=rfl
theorem strip_unsV (L:List Un):(qz L).strip=qz L:=rfl
theorem flag_wdsV (L:List Wd):(qK L).flag=true:=rfl
theorem strip_wdsV (L:List Wd):(qK L).strip=qK L:=rfl
section
variable {fz : Nat → Bool} {h : List AObj} {n : Nat}
theorem rei_tksV (L:List Tk):rei fz h (n+1) (jL L)=jL L:=rfl
theorem rei_tkssV (L:List (List Tk)):rei fz h (n+1) (qq L)=qq L:=rfl
theorem rei_colsV (L:List (List Int)):rei fz h (n+1) (qn L)=qn L:=rfl
theorem rei_rdsV (L:List Rd):rei fz h (n+1) (zD L)=zD L:=rfl
theorem rei_unsV (L:List Un):rei fz h (n+1) (qz L)=qz L:=rfl
theorem rei_wdsV (L:List Wd):rei fz h (n+1) (qK L)=qK L:=rfl
theorem frz_tksV (L:List Tk):frz fz h (n+1) (jL L)=jL L:=rfl
theorem frz_tkssV (L:List (List Tk)):frz fz h (n+1) (qq L)=qq L:=rfl
theorem frz_colsV (L:List (List Int)):frz fz h (n+1) (qn L)=qn L:=rfl
theorem frz_rdsV (L:List Rd):frz fz h (n+1) (zD L)=zD L:=rfl
theorem frz_unsV (L:List Un):frz fz h (n+1) (qz L)=qz L:=rfl
theorem frz_wdsV (L:List Wd):frz fz h (n+1) (qK L)=qK L:=rfl
end
attribute [go_sem] flag_tksV strip_tksV flag_tkssV strip_tkssV flag_colsV strip_colsV flag_rdsV strip_rdsV flag_unsV strip_unsV flag_wdsV strip_wdsV rei_tksV rei_tkssV rei_colsV rei_rdsV rei_unsV rei_wdsV frz_tksV frz_tkssV frz_colsV frz_rdsV frz_unsV frz_wdsV
def qtU (f:Int):Bool:=f.toNat.testBit 1
def mkB (f:Int):Bool:=f.toNat.testBit 3
def qvQ (s:Str):Bool:=decide (s= [])||jN s
def qAA (s:Str):Bool:=decide (s.length=1)&&(decide (je (ch s 0)=5)||decide (je (ch s 0)=4))
def qt3 (c:UInt8):Bool:=decide (je c=1)||(decide (je c=3)||(decide (je c=2)||decide (je c=4)))
def qzg (s:Str):Bool:=decide (s≠ [])&&(decide (s.length≤64)&&(List.range s.length).all fun i=>qt3 (ch s i))
def txB (t:Tk):Bool:=if qtU t.flags=true then qps t.text&&decide (t.norm=t.text) else if mkB t.flags=true then qAA t.text&&decide (t.norm=t.text) else qaX t.text&&qzg t.norm
def tkE (t:Tk):Int:=
 if t.flags<0∨31<t.flags then 2 else if qtU t.flags=true∧mkB t.flags=true then 8 else if txB t=false then 11 else if t.line<0 then 2 else if qvQ t.page=false∨qvQ t.name=false then 14 else 0
def qi6 (l:List Tk):Int:=if 1024<l.length then 4 else if zd (fun j=>decide (tkE (l.getD j default)≠0)) l.length=true then 1 else 0
def srE (x:Co):Int:=
 if jN x.sec=false then 14 else if x.sig.length=0 then 5 else if 32<x.sig.length then 4 else if qbk (jO x.sig) 0 x.sig.length≠0 then qbk (jO x.sig) 0 x.sig.length else
  if x.tok.length≠x.sig.length then 9 else qbk (fun i=>qi6 (x.tok.getD i [])) 0 x.tok.length
def cnC (col:List (List Int)) (s:Nat):Nat→Nat
 |0=>0
 |i+1=>cnC col s i+if (col.getD i []).getD s 0= -1 then 0 else 1
def enB (tok:List (List Tk)) (col:List (List Int)) (i s:Nat):Bool:=
 decide ((col.getD i []).getD s 0= -1)||(decide ((col.getD i []).getD s 0=(cnC col s i:Int))&&decide ((col.getD i []).getD s 0<((tok.getD s []).length:Int)))
def qf0 (tok:List (List Tk)) (col:List (List Int)) (i:Nat):Bool:=
 decide ((col.getD i []).length=tok.length)&&(!zd (fun s=> !enB tok col i s) tok.length&&zd (fun s=> !decide ((col.getD i []).getD s 0= -1)) tok.length)
def alB (tok:List (List Tk)) (col:List (List Int)):Bool:=
 !zd (fun i=> !qf0 tok col i) col.length&& !zd (fun s=> !decide (cnC col s col.length=(tok.getD s []).length)) tok.length
def coE (x:Co):Int:=if srE x≠0 then srE x else if alB x.tok x.col=false then 19 else 0
structure CoOk (x:Co):Prop where
 sg:0<x.sig.length∧x.sig.length≤32
 tn:x.tok.length=x.sig.length
 tl: ∀s,s<x.tok.length→(x.tok.getD s []).length≤1024
 te: ∀s,s<x.tok.length→ ∀j,j<(x.tok.getD s []).length→tkE ((x.tok.getD s []).getD j default)=0
 cl: ∀i,i<x.col.length→(x.col.getD i []).length=x.sig.length
 ce: ∀i,i<x.col.length→ ∀s,s<x.sig.length→(x.col.getD i []).getD s 0= -1∨((x.col.getD i []).getD s 0=(cnC x.col s i:Int)∧(x.col.getD i []).getD s 0<((x.tok.getD s []).length:Int))
 cs: ∀i,i<x.col.length→ ∃s,s<x.sig.length∧(x.col.getD i []).getD s 0≠ -1
 ct: ∀s,s<x.sig.length→cnC x.col s x.col.length=(x.tok.getD s []).length
theorem qkZ {x:Co} (h:coE x=0):CoOk x:=by
 unfold coE at h
 split at h
 ·rename_i h1;exact absurd h h1
 rename_i h1
 have h1:=Classical.not_not.1 h1
 split at h
 ·cases h
 rename_i h2
 unfold srE at h1
 split at h1
 ·cases h1
 split at h1
 ·cases h1
 rename_i g2
 split at h1
 ·cases h1
 rename_i g3
 split at h1
 ·rename_i g4;exact absurd h1 g4
 split at h1
 ·cases h1
 rename_i g5
 have g5:=Classical.not_not.1 g5
 have h3:=jZ.1 h1
 have h2:alB x.tok x.col=true:=by simpa using h2
 unfold alB at h2
 rw [Bool.and_eq_true,Bool.not_eq_true',Bool.not_eq_true',qp,qp]at h2
 obtain ⟨h4,h5⟩:=h2
 have h6: ∀i,i<x.col.length→qf0 x.tok x.col i=true:=fun i hi=>by simpa using h4 i hi
 have hrow: ∀s,s<x.tok.length→(x.tok.getD s []).length≤1024∧ ∀j,j<(x.tok.getD s []).length→tkE ((x.tok.getD s []).getD j default)=0:=fun s hs=>by
  have:=h3 s hs
  unfold qi6 at this
  split at this
  ·cases this
  rename_i k1
  split at this
  ·cases this
  rename_i k2
  refine ⟨by omega,fun j hj=> ?_⟩
  have:=qp.1 (by simpa using k2) j hj
  simpa using this
 refine ⟨by omega,g5,fun s hs=>(hrow s hs).1,fun s hs=>(hrow s hs).2,fun i hi=> ?_,fun i hi s hs=> ?_,fun i hi=> ?_,fun s hs=> ?_⟩
 ·have:=h6 i hi
  unfold qf0 at this
  rw [Bool.and_eq_true,decide_eq_true_iff]at this
  omega
 ·have:=h6 i hi
  unfold qf0 at this
  rw [Bool.and_eq_true,Bool.and_eq_true,Bool.not_eq_true',qp]at this
  have:=this.2.1 s (by omega)
  have this:enB x.tok x.col i s=true:=by simpa using this
  unfold enB at this
  simpa [Bool.or_eq_true,Bool.and_eq_true] using this
 ·have:=h6 i hi
  unfold qf0 at this
  rw [Bool.and_eq_true,Bool.and_eq_true]at this
  obtain ⟨s,hs,hv⟩:=qG.1 this.2.2
  exact ⟨s,by omega,by simpa using hv⟩
 ·have:=h5 s (by omega)
  simpa using this
def clT (x:Co) (k s:Nat):Option Str:=if (x.col.getD k []).getD s 0<0 then none else some ((x.tok.getD s []).getD ((x.col.getD k []).getD s 0).toNat default).text
def cmB (x:Co) (k:Nat):Bool:= !zd (fun s=>decide (clT x k s=none)|| !decide (clT x k s=clT x k 0)) x.sig.length
def rdG (x:Co) (s f:Nat):Nat→List Str
 |0=> []
 |d+1=>rdG x s f d++(clT x (f+d) s).toList
theorem qel (x:Co) (s f:Nat): ∀d,(rdG x s f d).length≤d:=by
 intro d
 induction d with
 |zero=>exact Nat.le_refl _
 |succ d ih=>
  unfold rdG
  rw [List.length_append]
  cases clT x (f+d) s with
  |none=>simp only [Option.toList_none,List.length_nil];omega
  |some w=>simp only [Option.toList_some,List.length_cons,List.length_nil];omega
def qjs (L:List Rd) (w:List Str):Int:=qad (fun j=>decide (w=(L.getD j default).words)) L.length 0
def qfH (L:List Rd) (w:List Str) (s:Nat):List Rd:=if qjs L w<0 then L++ [⟨w,[(s:Int)]⟩] else L.set (qjs L w).toNat ⟨w,(L.getD (qjs L w).toNat default).src++ [(s:Int)]⟩
def qcd (x:Co) (f d:Nat):Nat→List Rd
 |0=> []
 |s+1=>qfH (qcd x f d s) (rdG x s f d) s
def qhn (x:Co) (f t:Nat):List Rd:=qcd x f (t-f) x.sig.length
theorem qoh (L:List Rd) (w:List Str) (s:Nat):(qfH L w s).length≤L.length+1:=by
 unfold qfH
 split
 ·simp
 ·rw [List.length_set];omega
theorem qhp (x:Co) (f d:Nat): ∀s,(qcd x f d s).length≤s:=by
 intro s
 induction s with
 |zero=>exact Nat.le_refl _
 |succ s ih=>
  have:=qoh (qcd x f d s) (rdG x s f d) s
  unfold qcd
  omega
def unB (x:Co) (beh:Int) (u:Un):Bool:= !(decide (u.frm≤beh)||(decide (u.frm<0)||(decide (u.to≤u.frm)||(decide ((x.col.length:Int)<u.to)|| !decide (u.rds=qhn x u.frm.toNat u.to.toNat)))))
def beH (l:List Un) (i:Nat):Int:=if i=0 then-1 else (l.getD (i-1) default).to
def qnF (x:Co) (l:List Un):Bool:= !zd (fun i=> !unB x (beH l i) (l.getD i default)) l.length
def cvB (l:List Un) (k:Nat):Bool:=zd (fun i=>decide ((l.getD i default).frm≤k)&&decide ((k:Int)<(l.getD i default).to)) l.length
def cvA (x:Co) (l:List Un):Bool:= !zd (fun k=> !cvB l k&& !cmB x k) x.col.length
def rgB (x:Co) (l:List Un):Bool:=qnF x l&&cvA x l
def vaE (x:Co) (l:List Un):Int:=if coE x≠0 then 1 else if rgB x l=false then 20 else 0
def nxt (p:Nat→Bool):Nat→Nat→Nat
 |0,k=>k
 |d+1,k=>if p k=true then k else nxt p d (k+1)
theorem qef (p:Nat→Bool): ∀d k,k≤nxt p d k∧nxt p d k≤k+d∧(∀j,k≤j→j<nxt p d k→p j=false)∧(nxt p d k<k+d→p (nxt p d k)=true):=by
 intro d
 induction d with
 |zero=>intro k;exact ⟨Nat.le_refl _,Nat.le_refl _,fun j h1 h2=>by unfold nxt at h2;omega,fun h=>by unfold nxt at h;omega⟩
 |succ d ih=>
  intro k
  unfold nxt
  split
  ·rename_i h
   exact ⟨Nat.le_refl _,by omega,fun j h1 h2=>by omega,fun _=>h⟩
  ·rename_i h
   obtain ⟨h1,h2,h3,h4⟩:=ih (k+1)
   refine ⟨by omega,by omega,fun j g1 g2=> ?_,fun g=>h4 (by omega)⟩
   by_cases e:j=k
   ·subst e;simpa using h
   ·exact h3 j (by omega) g2
def kV (p:Nat→Bool) (n:Nat):Nat→Nat→List (Nat×Nat)
 |0,_=> []
 |d+1,f=>if n≤f then [] else (if f<nxt p (n-f) f then [(f,nxt p (n-f) f)] else [])++kV p n d (nxt p (n-f) f+1)
def qgj (p:Nat→Bool) (n:Nat):List (Nat×Nat):=kV p n (n+1) 0
theorem qhu (p:Nat→Bool) (n:Nat): ∀d f,(∀r∈kV p n d f,f≤r.1∧r.1<r.2∧r.2≤n∧ ∀k,r.1≤k→k<r.2→p k=false)∧(n-f<d→ ∀k,f≤k→k<n→p k=false→ ∃r∈kV p n d f,r.1≤k∧k<r.2):=by
 intro d
 induction d with
 |zero=>intro f;exact ⟨fun r hr=>absurd hr List.not_mem_nil,fun h=>absurd h (Nat.not_lt_zero _)⟩
 |succ d ih=>
  intro f
  unfold kV
  split
  ·rename_i h
   exact ⟨fun r hr=>absurd hr List.not_mem_nil,fun _ k h1 h2=>by omega⟩
  ·rename_i h
   obtain ⟨h1,h2,h3,h4⟩:=qef p (n-f) f
   obtain ⟨i1,i2⟩:=ih (nxt p (n-f) f+1)
   obtain ⟨t,ht⟩: ∃t,t=nxt p (n-f) f:=⟨_,rfl⟩
   rw [←ht]at h1 h2 h3 h4 i1 i2 ⊢
   refine ⟨fun r hr=> ?_,fun hd k k1 k2 k3=> ?_⟩
   ·rcases List.mem_append.1 hr with hr|hr
    ·split at hr
     ·rename_i hft
      rw [List.mem_singleton]at hr
      subst hr
      exact ⟨Nat.le_refl _,hft,by simp only;omega,h3⟩
     ·cases hr
    ·obtain ⟨g1,g2⟩:=i1 r hr
     exact ⟨by omega,g2⟩
   ·by_cases hk:k<t
    ·refine ⟨(f,t),List.mem_append_left _ ?_,k1,hk⟩
     rw [if_pos (by omega)]
     exact List.mem_singleton.2 rfl
    ·have hne:k≠t:=fun e=>by
      subst e
      rw [h4 (by omega)]at k3
      cases k3
     obtain ⟨r,hr,g⟩:=i2 (by omega) k (by omega) k2 k3
     exact ⟨r,List.mem_append_right _ hr,g⟩
theorem quL {p:Nat→Bool} {n:Nat} {r:Nat×Nat} (hr:r∈qgj p n):r.1<r.2∧r.2≤n∧ ∀k,r.1≤k→k<r.2→p k=false:=((qhu p n (n+1) 0).1 r hr).2
theorem qqq {p:Nat→Bool} {n k:Nat} (hk:k<n) (hp:p k=false): ∃r∈qgj p n,r.1≤k∧k<r.2:=(qhu p n (n+1) 0).2 (by omega) k (Nat.zero_le _) hk hp
structure qCX (x:Co) (l:List Un):Prop where
 pw:l.Pairwise fun a b=>a.to<b.frm
 rg: ∀u∈l,0≤u.frm∧u.frm<u.to∧u.to≤x.col.length∧u.rds=qhn x u.frm.toNat u.to.toNat
theorem qu0 {x:Co} {beh:Int} {u:Un}:unB x beh u=true↔beh<u.frm∧0≤u.frm∧u.frm<u.to∧u.to≤x.col.length∧u.rds=qhn x u.frm.toNat u.to.toNat:=by
 unfold unB
 simp only [Bool.not_eq_true',Bool.or_eq_false_iff,decide_eq_false_iff_not,Bool.not_eq_false',decide_eq_true_eq]
 constructor
 ·rintro ⟨h1,h2,h3,h4,h5⟩;exact ⟨by omega,by omega,by omega,by omega,h5⟩
 ·rintro ⟨h1,h2,h3,h4,h5⟩;exact ⟨by omega,by omega,by omega,by omega,h5⟩
theorem qbZ {x:Co} {l:List Un} (h:qnF x l=true):qCX x l:=by
 unfold qnF at h
 rw [Bool.not_eq_true',qp]at h
 have h1: ∀i,i<l.length→beH l i<(l.getD i default).frm∧0≤(l.getD i default).frm∧(l.getD i default).frm<(l.getD i default).to∧(l.getD i default).to≤x.col.length∧(l.getD i default).rds=qhn x (l.getD i default).frm.toNat (l.getD i default).to.toNat:=fun i hi=>
  qu0.1 (by simpa using h i hi)
 have g: ∀i (hi:i<l.length),l.getD i default=l[i]:=fun i hi=>by rw [gdqA,qZ hi];rfl
 refine ⟨List.pairwise_iff_getElem.2 fun i j hi hj hij=> ?_,fun u hu=> ?_⟩
 ·have key: ∀d,i+1+d<l.length→(l.getD i default).to<(l.getD (i+1+d) default).frm:=by
   intro d
   induction d with
   |zero=>
    intro hd
    have:=(h1 (i+1) hd).1
    unfold beH at this
    rw [if_neg (by omega),Nat.add_sub_cancel]at this
    exact this
   |succ d ih=>
    intro hd
    have h2:=ih (by omega)
    have h3:=(h1 (i+1+d) (by omega)).2.2.1
    have h4:=(h1 (i+1+d+1) (by omega)).1
    unfold beH at h4
    rw [if_neg (by omega),Nat.add_sub_cancel]at h4
    rw [←Nat.add_assoc]
    omega
  have:=key (j-(i+1)) (by omega)
  rw [show i+1+(j-(i+1))=j by omega,g i hi,g j hj]at this
  exact this
 ·obtain ⟨i,hi,rfl⟩:=List.getElem_of_mem hu
  have:=(h1 i hi).2
  rw [g i hi]at this
  exact this
theorem qk1 {l:List Un} {k:Nat}:cvB l k=true↔ ∃u∈l,u.frm≤k∧(k:Int)<u.to:=by
 unfold cvB
 rw [qG]
 constructor
 ·rintro ⟨i,hi,h⟩
  rw [gdqA,qZ hi,Bool.and_eq_true,decide_eq_true_iff,decide_eq_true_iff]at h
  exact ⟨_,List.getElem_mem hi,h⟩
 ·rintro ⟨u,hu,h⟩
  obtain ⟨i,hi,rfl⟩:=List.getElem_of_mem hu
  refine ⟨i,hi,?_⟩
  rw [gdqA,qZ hi,Bool.and_eq_true,decide_eq_true_iff,decide_eq_true_iff]
  exact h
def rnB (l:List Un) (r:Nat×Nat):Bool:=zd (fun i=>decide ((l.getD i default).frm≤r.1)&&decide ((r.2:Int)≤(l.getD i default).to)) l.length
theorem qmQ {l:List Un} {r:Nat×Nat}:rnB l r=true↔ ∃u∈l,u.frm≤r.1∧(r.2:Int)≤u.to:=by
 unfold rnB
 rw [qG]
 constructor
 ·rintro ⟨i,hi,h⟩
  rw [gdqA,qZ hi,Bool.and_eq_true,decide_eq_true_iff,decide_eq_true_iff]at h
  exact ⟨_,List.getElem_mem hi,h⟩
 ·rintro ⟨u,hu,h⟩
  obtain ⟨i,hi,rfl⟩:=List.getElem_of_mem hu
  refine ⟨i,hi,?_⟩
  rw [gdqA,qZ hi,Bool.and_eq_true,decide_eq_true_iff,decide_eq_true_iff]
  exact h
theorem qpF {α:Type} {L:List α} {R:α→α→Prop} (h:L.Pairwise R) {a b:α} (ha:a∈L) (hb:b∈L) (hne:a≠b):R a b∨R b a:=by
 induction L with
 |nil=>cases ha
 |cons c r ih=>
  obtain ⟨h1,h2⟩:=List.pairwise_cons.1 h
  rcases List.mem_cons.1 ha with ea|na
  ·rcases List.mem_cons.1 hb with eb|nb
   ·exact absurd (ea.trans eb.symm) hne
   ·rw [ea];exact .inl (h1 b nb)
  ·rcases List.mem_cons.1 hb with eb|nb
   ·rw [eb];exact .inr (h1 a na)
   ·exact ih h2 na nb
theorem qtk {x:Co} {l:List Un} (h:qnF x l=true):((qgj (cmB x) x.col.length).all (rnB l)=true)↔cvA x l=true:=by
 have ho:=qbZ h
 unfold cvA
 rw [List.all_eq_true,Bool.not_eq_true',qp]
 constructor
 ·intro hr k hk
  cases hc:cmB x k with
  |true=>simp
  |false=>
   obtain ⟨r,hr1,r1,r2⟩:=qqq hk hc
   obtain ⟨u,hu,u1,u2⟩:=qmQ.1 (hr r hr1)
   rw [qk1.2 ⟨u,hu,by omega,by omega⟩]
   rfl
 ·intro hk r hr
  obtain ⟨r1,r2,r3⟩:=quL hr
  have cov: ∀k,r.1≤k→k<r.2→ ∃u∈l,u.frm≤(k:Int)∧(k:Int)<u.to:=fun k h1 h2=>by
   have h3:=hk k (by omega)
   rw [r3 k h1 h2,Bool.not_false,Bool.and_true,Bool.not_eq_false']at h3
   exact qk1.1 h3
  obtain ⟨u,hu,u1,u2⟩:=cov r.1 (Nat.le_refl _) r1
  refine qmQ.2 ⟨u,hu,u1,?_⟩
  by_cases ht:(r.2:Int)≤u.to
  ·exact ht
  ·exfalso
   have hur:=ho.rg u hu
   obtain ⟨k,hk2⟩: ∃k:Nat,u.to=(k:Int):=⟨u.to.toNat,by omega⟩
   obtain ⟨v,hv,v1,v2⟩:=cov k (by omega) (by omega)
   have hvr:=ho.rg v hv
   by_cases e:u=v
   ·subst e;omega
   ·rcases qpF ho.pw hu hv e with h1|h1
    ·omega
    ·omega
def fnU (l:List Un) (c:Int):Int:=qad (fun i=>decide ((l.getD i default).frm≤c)&&decide (c<(l.getD i default).to)) l.length 0
theorem qg9 {l:List Un} {c:Int} {k:Nat} (h:fnU l c=k):k<l.length∧(l.getD k default).frm≤c∧c<(l.getD k default).to:=by
 unfold fnU at h
 rcases zP (fun i=>decide ((l.getD i default).frm≤c)&&decide (c<(l.getD i default).to)) l.length with ⟨i,h1,h2,_,h4⟩|⟨_,h2⟩
 ·rw [h4]at h
  have e:i=k:=by omega
  subst e
  rw [Bool.and_eq_true,decide_eq_true_iff,decide_eq_true_iff]at h2
  exact ⟨h1,h2⟩
 ·rw [h2]at h;omega
theorem qrM {l:List Un} {c:Int} (h:fnU l c<0) {i:Nat} (hi:i<l.length): ¬((l.getD i default).frm≤c∧c<(l.getD i default).to):=by
 unfold fnU at h
 rcases zP (fun i=>decide ((l.getD i default).frm≤c)&&decide (c<(l.getD i default).to)) l.length with ⟨j,_,_,_,h4⟩|⟨h1,_⟩
 ·rw [h4]at h;omega
 ·have:=h1 i hi
  rw [Bool.and_eq_false_iff,decide_eq_false_iff_not,decide_eq_false_iff_not]at this
  omega
theorem qyM {x:Co} {l:List Un} (h:qnF x l=true) {c:Int} {k:Nat} (hk:k<l.length) (h1:(l.getD k default).frm≤c) (h2:c<(l.getD k default).to):fnU l c=k:=by
 have ho:=qbZ h
 rcases Int.lt_or_le (fnU l c) 0 with hn|hn
 ·exact absurd ⟨h1,h2⟩ (qrM hn hk)
 ·obtain ⟨j,hj⟩: ∃j:Nat,fnU l c=j:=⟨(fnU l c).toNat,by omega⟩
  obtain ⟨j1,j2,j3⟩:=qg9 hj
  rw [hj]
  have g: ∀i (hi:i<l.length),l.getD i default=l[i]:=fun i hi=>by rw [gdqA,qZ hi];rfl
  rw [g k hk]at h1 h2
  rw [g j j1]at j2 j3
  rcases Nat.lt_trichotomy j k with e|e|e
  ·have:=List.pairwise_iff_getElem.1 ho.pw j k j1 hk e;omega
  ·omega
  ·have:=List.pairwise_iff_getElem.1 ho.pw k j hk j1 e;omega
def wdE (x:Co) (l:List Un) (w bef:Wd) (first:Bool):Int:=
 if w.text= []∨64<w.text.length then 11 else if w.col<0∨(x.col.length:Int)≤w.col∨(first=false∧w.col<bef.col) then 19 else if w.unit< -1∨(l.length:Int)≤w.unit then 20 else
  if fnU l w.col≠w.unit then 20 else if w.dec< -1∨(w.unit<0∧w.dec≠ -1)∨(first=false∧0≤w.unit∧w.unit=bef.unit∧w.dec≠bef.dec) then 2 else 0
def qjB (b:List Wd) (i:Nat):Wd:=if i=0 then default else b.getD (i-1) default
def qod (x:Co) (l:List Un) (b:List Wd) (i:Nat):Int:=wdE x l (b.getD i default) (qjB b i) (decide (i=0))
def cW (b:List Wd) (c:Int):Nat→Nat
 |0=>0
 |i+1=>cW b c i+if (b.getD i default).col=c then 1 else 0
def txA (x:Co) (c:Nat):Str:=((x.tok.getD 0 []).getD ((x.col.getD c []).getD 0 0).toNat default).text
def ccB (x:Co) (b:List Wd) (c:Nat):Bool:=decide (cW b c b.length=1)&&zd (fun i=>decide ((b.getD i default).col=c)&&decide ((b.getD i default).text=txA x c)) b.length
def qAY (x:Co) (l:List Un) (b:List Wd) (c:Nat):Int:=if 0≤fnU l c then 0 else if ccB x b c=true then 0 else 9
def pvE (x:Co) (l:List Un) (b:List Wd):Int:=
 if vaE x l≠0 then vaE x l else if qbk (qod x l b) 0 b.length≠0 then qbk (qod x l b) 0 b.length else qbk (qAY x l b) 0 x.col.length
structure qn8 (x:Co) (l:List Un) (b:List Wd):Prop where
 co:coE x=0
 un:qnF x l=true
 cv:cvA x l=true
 tx: ∀i,i<b.length→(b.getD i default).text≠ []∧(b.getD i default).text.length≤64
 cl: ∀i,i<b.length→0≤(b.getD i default).col∧(b.getD i default).col<x.col.length
 ord: ∀i,i+1<b.length→(b.getD i default).col≤(b.getD (i+1) default).col
 un2: ∀i,i<b.length→fnU l (b.getD i default).col=(b.getD i default).unit
 cc: ∀c,c<x.col.length→fnU l c<0→ccB x b c=true
theorem qr4 {x:Co} {l:List Un} {b:List Wd} (h:pvE x l b=0):qn8 x l b:=by
 unfold pvE at h
 split at h
 ·rename_i h1;exact absurd h h1
 rename_i h1
 have h1:=Classical.not_not.1 h1
 split at h
 ·rename_i h2;exact absurd h h2
 rename_i h2
 have h2:=jZ.1 (Classical.not_not.1 h2)
 have h3:=jZ.1 h
 unfold vaE at h1
 split at h1
 ·cases h1
 rename_i g1
 split at h1
 ·cases h1
 rename_i g2
 have g2:rgB x l=true:=by simpa using g2
 unfold rgB at g2
 rw [Bool.and_eq_true]at g2
 have hw: ∀i,i<b.length→((b.getD i default).text≠ []∧(b.getD i default).text.length≤64)∧(0≤(b.getD i default).col∧(b.getD i default).col<x.col.length)∧(0<i→(qjB b i).col≤(b.getD i default).col)∧fnU l (b.getD i default).col=(b.getD i default).unit:=fun i hi=>by
  have:=h2 i hi
  unfold qod wdE at this
  split at this
  ·cases this
  rename_i k1
  split at this
  ·cases this
  rename_i k2
  split at this
  ·cases this
  split at this
  ·cases this
  rename_i k4
  refine ⟨⟨fun e=>k1 (.inl e),Nat.le_of_not_lt fun e=>k1 (.inr e)⟩,⟨by omega,by omega⟩,fun h0=> ?_,Classical.not_not.1 k4⟩
  refine Int.not_lt.1 fun hc=>k2 (.inr (.inr ⟨decide_eq_false (by omega),hc⟩))
 refine ⟨Classical.not_not.1 g1,g2.1,g2.2,fun i hi=>(hw i hi).1,fun i hi=>(hw i hi).2.1,fun i hi=> ?_,fun i hi=>(hw i hi).2.2.2,fun c hc hn=> ?_⟩
 ·have:=(hw (i+1) hi).2.2.1 (by omega)
  unfold qjB at this
  rw [if_neg (by omega),Nat.add_sub_cancel]at this
  exact this
 ·have:=h3 c hc
  unfold qAY at this
  rw [if_neg (by omega)]at this
  split at this
  ·assumption
  ·cases this
def cP (p:Nat→Bool):Nat→Nat
 |0=>0
 |i+1=>cP p i+if p i=true then 1 else 0
theorem qoE (p:Nat→Bool): ∀n,cP p n≤n:=by
 intro n
 induction n with
 |zero=>exact Nat.le_refl _
 |succ n ih=>unfold cP;split<;>omega
theorem qw3 {p:Nat→Bool}: ∀ {n:Nat},(∀i,i<n→p i=true)→cP p n=n:=by
 intro n
 induction n with
 |zero=>intro _;rfl
 |succ n ih=>intro h;unfold cP;rw [ih fun i hi=>h i (by omega),if_pos (h n (by omega))]
theorem qw5 {p:Nat→Bool}: ∀ {n:Nat},(∀i,i+1<n→p (i+1)=true→p i=true)→ ∀i,i<n→(p i=true↔i<cP p n):=by
 intro n
 induction n with
 |zero=>intro _ i h;exact absurd h (Nat.not_lt_zero i)
 |succ n ih=>
  intro hm i hi
  have h0:=ih fun j hj=>hm j (by omega)
  unfold cP
  cases hn:p n with
  |true=>
   rw [if_pos rfl]
   have hall: ∀d,d≤n→p (n-d)=true:=by
    intro d
    induction d with
    |zero=>intro _;exact hn
    |succ d ihd=>
     intro hd
     refine hm (n-(d+1)) (by omega) ?_
     rw [show n-(d+1)+1=n-d by omega]
     exact ihd (by omega)
   have hp: ∀j,j≤n→p j=true:=fun j hj=>by
    have:=hall (n-j) (by omega)
    rwa [show n-(n-j)=j by omega]at this
   rw [qw3 fun j hj=>hp j (by omega),hp i (by omega)]
   exact ⟨fun _=>by omega,fun _=>rfl⟩
  |false=>
   rw [if_neg (by simp),Nat.add_zero]
   by_cases e:i=n
   ·subst e
    have:=qoE p i
    rw [hn]
    exact ⟨fun h=>absurd h (by simp),fun h=>by omega⟩
   ·exact h0 i (by omega)
theorem qw4 {q:Nat→Bool} {F G:Nat} (hFG:F≤G): ∀ {n:Nat},(∀i,i<n→(q i=true↔F≤i∧i<G))→cP q n=min n G-min n F:=by
 intro n
 induction n with
 |zero=>intro _;simp [cP]
 |succ n ih=>
  intro h
  unfold cP
  rw [ih fun i hi=>h i (by omega)]
  have hn:=h n (by omega)
  split
  ·rename_i hq
   have:=hn.1 hq
   omega
  ·rename_i hq
   have: ¬(F≤n∧n<G):=fun hc=>hq (hn.2 hc)
   omega
theorem qtX {q:Nat→Bool} {F G n:Nat} (hGn:G≤n) (h: ∀i,i<n→(q i=true↔F≤i∧i<G)):qad q n 0=if F<G then (F:Int) else-1:=by
 split
 ·rename_i hl
  exact qae (by omega) (fun j hj=>by
   cases hq:q j with
   |false=>rfl
   |true=>have:=(h j (by omega)).1 hq;omega) ((h F (by omega)).2 ⟨Nat.le_refl _,hl⟩)
 ·rename_i hl
  refine qaA fun j hj=> ?_
  cases hq:q j with
  |false=>rfl
  |true=>have:=(h j hj).1 hq;omega
def qfS (q:Nat→Bool) (n f:Nat):Nat:=nxt (fun i=> !q i) (n-f) f
theorem qko (q:Nat→Bool) {n f:Nat} (hf:f≤n):f≤qfS q n f∧qfS q n f≤n∧(∀j,f≤j→j<qfS q n f→q j=true)∧(qfS q n f<n→q (qfS q n f)=false):=by
 obtain ⟨h1,h2,h3,h4⟩:=qef (fun i=> !q i) (n-f) f
 refine ⟨h1,by unfold qfS;omega,fun j g1 g2=>by simpa using h3 j g1 g2,fun g=> ?_⟩
 have:=h4 (by unfold qfS at g;omega)
 simpa [qfS] using this
def qvO (q:Nat→Bool) (n f:Nat):Bool:=zd (fun i=>decide (qfS q n f≤i)&&q i) n
def qnh (q:Nat→Bool) (n:Nat):Int:=if qad q n 0<0 then 6 else if qvO q n (qad q n 0).toNat=true then 10 else 0
def qzP (q:Nat→Bool) (n:Nat):Int:=if qnh q n=0 then qad q n 0 else 0
def qzQ (q:Nat→Bool) (n:Nat):Int:=if qnh q n=0 then (qfS q n (qad q n 0).toNat:Int) else 0
def inU (b:List Wd) (k:Int) (i:Nat):Bool:=decide ((b.getD i default).unit=k)
def bfU (b:List Wd) (c:Int) (i:Nat):Bool:=decide ((b.getD i default).col<c)
theorem qhw {x:Co} {l:List Un} {b:List Wd} (h:qn8 x l b) {k:Nat} (hk:k<l.length):
  ∃F G,F≤G∧G≤b.length∧(∀i,i<b.length→(bfU b (l.getD k default).frm i=true↔i<F))∧(∀i,i<b.length→(inU b k i=true↔F≤i∧i<G))∧cP (bfU b (l.getD k default).frm) b.length=F∧cP (inU b k) b.length=G-F:=by
 obtain ⟨u,hu⟩: ∃u,u=l.getD k default:=⟨_,rfl⟩
 have hur:=(qbZ h.un).rg u (by rw [hu,gdqA,qZ hk];exact List.getElem_mem hk)
 have hpre: ∀c,∀i,i<b.length→(bfU b c i=true↔i<cP (bfU b c) b.length):=fun c=>qw5 fun i hi hp=>by
  have:=h.ord i hi
  unfold bfU at hp ⊢
  rw [decide_eq_true_iff]at hp ⊢
  omega
 have h1:=hpre u.frm
 have h2:=hpre u.to
 have hq: ∀i,i<b.length→(inU b k i=true↔cP (bfU b u.frm) b.length≤i∧i<cP (bfU b u.to) b.length):=fun i hi=>by
  have g1:=h1 i hi
  have g2:=h2 i hi
  unfold bfU at g1 g2
  rw [decide_eq_true_iff]at g1 g2
  unfold inU
  rw [decide_eq_true_iff]
  constructor
  ·intro e
   obtain ⟨_,k2,k3⟩:=qg9 (show fnU l (b.getD i default).col=k by rw [h.un2 i hi,e])
   rw [←hu]at k2 k3
   exact ⟨Nat.le_of_not_lt fun hc=>absurd (g1.2 hc) (by omega),g2.1 k3⟩
  ·rintro ⟨e1,e2⟩
   have k2:u.frm≤(b.getD i default).col:=Int.not_lt.1 fun hc=>by have:=g1.1 hc;exact absurd this (Nat.not_lt.2 e1)
   have k3:=g2.2 e2
   rw [←h.un2 i hi]
   exact qyM h.un hk (by rw [←hu];exact k2) (by rw [←hu];exact k3)
 have hle:cP (bfU b u.frm) b.length≤cP (bfU b u.to) b.length:=by
  rcases Nat.lt_or_ge (cP (bfU b u.to) b.length) (cP (bfU b u.frm) b.length)with hlt|hge
  ·have hi:cP (bfU b u.to) b.length<b.length:=by have:=qoE (bfU b u.frm) b.length;omega
   have g1:=(h1 _ hi).2 hlt
   have g2: ¬_:=fun hc=>absurd ((h2 _ hi).1 hc) (Nat.lt_irrefl _)
   unfold bfU at g1 g2
   rw [decide_eq_true_iff]at g1 g2
   omega
  ·exact hge
 have hGn:=qoE (bfU b u.to) b.length
 refine ⟨cP (bfU b u.frm) b.length,cP (bfU b u.to) b.length,hle,hGn,by rw [←hu];exact h1,hq,by rw [←hu],?_⟩
 rw [qw4 hle hq]
 omega
structure Va where
 words:List Str
 sigla:List Str
 deriving Inhabited
structure En where
 layer:Int
 frm:Int
 to:Int
 pos:Bool
 sup:List Str
 vars:List Va
 deriving Inhabited
def vaC (v:Va):List AV:= [strs v.words,strs v.sigla]
def qah (vs:List Va):AV:= .sl vs.length fun i=>vaC (vs.getD i default)
def enC (e:En):List AV:= [.int .i64 e.layer,.int .i64 e.frm,.int .i64 e.to,.bool e.pos,strs e.sup,qah e.vars]
def qan (l:List En):AV:= .sl l.length fun i=>enC (l.getD i default)
theorem qls (L:List Va):(qah L).flag=true:=rfl
theorem qi3 (L:List Va):(qah L).strip=qah L:=rfl
theorem qpr {fz:Nat→Bool} {h:List AObj} {n:Nat} (L:List Va):frz fz h (n+1) (qah L)=qah L:=rfl
theorem qql {fz:Nat→Bool} {h:List AObj} {n:Nat} (L:List Va):rei fz h (n+1) (qah L)=qah L:=rfl
theorem qlo (L:List En):(qan L).flag=true:=rfl
theorem qiZ (L:List En):(qan L).strip=qan L:=rfl
theorem qpo {fz:Nat→Bool} {h:List AObj} {n:Nat} (L:List En):frz fz h (n+1) (qan L)=qan L:=rfl
theorem qqi {fz:Nat→Bool} {h:List AObj} {n:Nat} (L:List En):rei fz h (n+1) (qan L)=qan L:=rfl
attribute [go_sem] qls qi3 qpr qql qlo qiZ qpo qqi
theorem qxu (ws:List Str) (m:Nat) (k:Nat→Str) (h:List AObj) (h1:ws.length≤1000000000) (h2:m≤1000000000):
  ACalls Tryz.prog 53 [strs ws,.sl m (fun j=> [.str (k j)])] h (.bool (decide (ws.length=m∧ ∀i,i<ws.length→ws.getD i []=k i))) h:=by
 unfold strs
 have:=qCD qBk ws.length m (fun j=> .s (ws.getD j [])) (fun j=> .s (k j)) h (fun _ _ _=>rfl) (by omega) (by omega)
 simpa only [At.v,At.s.injEq] using this
theorem qBU (ws:List Str) (m:Nat) (k:Nat→Str) (h:List AObj) (h1:ws.length≤1000000000) (h2:m≤1000000000):
  ACalls Tryz.prog 139 [strs ws,.sl m (fun j=> [.str (k j)])] h (.bool (decide (ws.length=m∧ ∀i,i<ws.length→ws.getD i []=k i))) h:=by
 have c22:=fun h=>qxu ws m k h h1 h2
 refine acO qxN ?_
 simp (disch:=omega) only [qwk,go_sem]
 repeat' first
  |((first|refine cA (c22 _) ?_ ?_|refine cG (fun e=>c22 _) ?_ ?_|refine cU (fun _=>c22 _) ?_ ?_);exact flk;simp (disch:=omega) only [go_sem])
  |((first|apply qd|apply qb);exact rvk;simp only [go_sem];first|exact ql|apply qe|apply qa|apply qf|skip)
  |with_reducible first|apply aiA|intro _
 all_goals try exact clz
theorem j9 {α:Type} [Inhabited α] {a b:List α} (d:α):a=b↔a.length=b.length∧ ∀i,i<a.length→a.getD i d=b.getD i d:=by
 constructor
 ·rintro rfl;exact ⟨rfl,fun _ _=>rfl⟩
 ·rintro ⟨h1,h2⟩
  apply List.ext_getElem h1
  intro i h3 h4
  have:=h2 i h3
  rw [gdqA,gdqA,qZ h3,qZ h4]at this
  exact this
def qco (t:List Str) (f g:Nat):List Str:=(t.drop f).take (g-f)
theorem qeu {t:List Str} {f g:Nat} (h1:f≤g) (h2:g≤t.length):(qco t f g).length=g-f:=by unfold qco;simp;omega
def qq9 (t:List Str) (e:En) (i:Nat):Int:=
 if qn7 (e.vars.getD i default).words≠0 then 11 else if (e.vars.getD i default).words=qco t e.frm.toNat e.to.toNat then 9 else
  if zd (fun j=>decide ((e.vars.getD i default).words=(e.vars.getD j default).words)) i=true then 7 else if (e.vars.getD i default).sigla.length=0 then 5 else 0
def cnt (names:List Str) (gs:List Gr) (e:En):Nat→List Int
 |0=>qdh (List.replicate 32 0) (jq names gs e.sup)
 |i+1=>qdh (cnt names gs e i) (jq names gs (e.vars.getD i default).sigla)
def qnE (C:List Int):Bool:=zd (fun i=>decide (1<C.getD i 0)) C.length
def qvV (t:List Str) (e:En):Prop:=e.layer<0∨16≤e.layer∨e.frm<0∨e.to<e.frm∨(t.length:Int)<e.to
instance (t:List Str) (e:En):Decidable (qvV t e):=by unfold qvV;infer_instance
def qA0 (names:List Str) (gs:List Gr) (t:List Str) (e:En):Int:=
 if sgE names gs≠0 then 1 else if 4096<t.length then 4 else if qn7 t≠0 then 11 else if qvV t e then 2 else
  if 0<e.sup.length∧e.pos=false then 1 else if e.vars.length=0 then 5 else
   if qbk (qq9 t e) 0 e.vars.length≠0 then qbk (qq9 t e) 0 e.vars.length else
    if qaW names gs e.sup≠0 then qaW names gs e.sup else
     if qbk (fun i=>qaW names gs (e.vars.getD i default).sigla) 0 e.vars.length≠0 then qbk (fun i=>qaW names gs (e.vars.getD i default).sigla) 0 e.vars.length else
      if qnE (cnt names gs e e.vars.length)=true then 17 else 0
theorem qkY (names:List Str) (gs:List Gr) (e:En): ∀i,(cnt names gs e i).length=32:=by
 intro i
 induction i with
 |zero=>unfold cnt;rw [qcr];simp
 |succ i ih=>unfold cnt;rw [qcr,ih]
theorem qta (names:List Str) (gs:List Gr) (e:En): ∀i j:Nat,0≤(cnt names gs e i).getD j 0∧(cnt names gs e i).getD j 0≤64*((i:Int)+1):=by
 intro i
 induction i with
 |zero=>
  intro j
  unfold cnt
  have:=qdX (C:=List.replicate 32 0) (L:=jq names gs e.sup) (B:=0) (fun i=>by
   rw [gdqA,List.getElem?_replicate]
   split<;>simp) _ (Nat.le_refl _) j
  rw [List.take_length]at this
  have h2:= @qd4 names gs e.sup
  omega
 |succ i ih=>
  intro j
  unfold cnt
  have:=qdX (C:=cnt names gs e i) (L:=jq names gs (e.vars.getD i default).sigla) (B:=64*((i:Int)+1)) ih _ (Nat.le_refl _) j
  rw [List.take_length]at this
  have h2:= @qd4 names gs (e.vars.getD i default).sigla
  omega
theorem qdG {p q:Nat→Bool} {n:Nat} (h: ∀k,k<n→p k=q k):jl p n=jl q n:=by
 unfold jl
 congr 1
 refine List.filter_congr fun k hk=>h k (List.mem_range.1 hk)
theorem qaJ {p:Nat→Bool} {n:Nat} {x:Int}:x∈jl p n↔ ∃k:Nat,k<n∧p k=true∧x=k:=by
 unfold jl
 constructor
 ·intro h
  obtain ⟨k,hk,rfl⟩:=List.mem_map.1 h
  obtain ⟨h1,h2⟩:=List.mem_filter.1 hk
  exact ⟨k,List.mem_range.1 h1,h2,rfl⟩
 ·rintro ⟨k,h1,h2,rfl⟩
  exact List.mem_map.2 ⟨k,List.mem_filter.2 ⟨List.mem_range.2 h1,h2⟩,rfl⟩
theorem qhf {p:Nat→Bool} {n:Nat} (hn:n≤64):qep 64 (jl p n)=0:=by
 unfold qep
 refine qY fun i hi=> ?_
 have hpw:(jl p n).Pairwise (· < ·):=by
  unfold jl
  rw [List.pairwise_map]
  refine List.Pairwise.imp ?_ (List.Pairwise.filter _ List.pairwise_lt_range)
  intro a b hab
  show (a:Int)<(b:Int)
  omega
 have g: ∀j (hj:j<(jl p n).length),(jl p n).getD j 0=(jl p n)[j]:=fun j hj=>by rw [gdqA,qZ hj];rfl
 unfold qfr
 obtain ⟨k,h1,h2,h3⟩:=qaJ.1 (List.getElem_mem hi)
 rw [g i hi,if_neg (by rw [h3];omega)]
 split
 ·rename_i hc
  obtain ⟨h4,h5⟩:=hc
  rw [g (i-1) (by omega)]at h5
  have:=List.pairwise_iff_getElem.1 hpw (i-1) i (by omega) hi (by omega)
  omega
 ·rfl
theorem smw (ws:List Str) (m:Nat) (k:Nat→Str) (h:List AObj) (h1:ws.length≤1000000000) (h2:m≤1000000000):
  ACalls Tryz.prog 103 [strs ws,.sl m (fun j=> [.str (k j)])] h (.bool (decide (ws.length=m∧ ∀i,i<ws.length→ws.getD i []=k i))) h:=by
 obtain ⟨R,hR⟩: ∃R,R=decide (ws.length=m∧ ∀i,i<ws.length→ws.getD i []=k i):=⟨_,rfl⟩
 rw [←hR]
 by_cases g:ws.length=m
 ·have k0:((ws.length:Int)=m)=True:=eq_true (by omega)
  refine acO qrr ?_
  simp (disch:=omega) only [qsv,strs,k0,go_sem]
  repeat' first
   |((first|apply qd|apply qb);exact rvk;simp only [go_sem];first|exact ql|apply qe|apply qa|apply qf|skip)
   |with_reducible first|apply aiA|intro _
  all_goals try exact clz
  refine qt (T:=fun i:Nat=>qT 26 [(0,strs ws),(1,.sl m (fun j=> [.str (k j)])),(5,.int .i64 i)]) (H:=fun _=>h) (inv:=fun i=>i≤ws.length∧ ∀j,j<i→ws.getD j []=k j) (m:=fun i=>ws.length-i) 0 ⟨Nat.zero_le _,fun j hj=>by omega⟩ (Wk.temps ?_) ?_
  ·(simp only [strs,go_sem,qk,qh,qg,qj];try (repeat' first|(with_reducible apply aiA)|(apply qe;omega)|(apply qa;rfl)|exact ql))
  rintro i ⟨i1,i2⟩ K hK
  by_cases hi:i<ws.length
  ·have k1:((i:Int)<ws.length)=True:=eq_true (by omega)
   have k3:((i:Int)<m)=True:=eq_true (by omega)
   obtain ⟨x,hx⟩: ∃x,x=ws.getD i []:=⟨_,rfl⟩
   have ex:=hx.symm
   by_cases e:x=k i
   ·have k2:(x=k i)=True:=eq_true e
    simp (disch:=omega) only [strs,k1,k2,k3,ex,go_sem]
    repeat' first
     |((first|apply qd|apply qb);exact rvk;simp only [go_sem];first|exact ql|apply qe|apply qa|apply qf|skip)
     |with_reducible first|apply aiA|intro _
    all_goals try exact clz
    refine hK _ _ (i+1) ⟨hi,fun j hj=> ?_⟩ (by omega) (Wk.temps ?_)
    ·by_cases e':j=i
     ·subst e';rw [ex];exact e
     ·exact i2 j (by omega)
    ·(simp only [strs,go_sem,qk,qh,qg,qj];try (repeat' first|(with_reducible apply aiA)|(apply qe;omega)|(apply qa;rfl)|exact ql))
   ·have k2:(x=k i)=False:=eq_false e
    have hV:R=false:=by rw [hR];exact decide_eq_false fun hc=>e (by rw [←ex];exact hc.2 i hi)
    rw [hV]
    simp (disch:=omega) only [strs,k1,k2,k3,ex,go_sem]
    repeat' first
     |((first|apply qd|apply qb);exact rvk;simp only [go_sem];first|exact ql|apply qe|apply qa|apply qf|skip)
     |with_reducible first|apply aiA|intro _
    all_goals try exact clz
  ·have k1:((i:Int)<ws.length)=False:=eq_false (by omega)
   have hV:R=true:=by rw [hR];exact decide_eq_true ⟨g,fun j hj=>i2 j (by omega)⟩
   rw [hV]
   simp (disch:=omega) only [strs,k1,go_sem]
   repeat' first
    |((first|apply qd|apply qb);exact rvk;simp only [go_sem];first|exact ql|apply qe|apply qa|apply qf|skip)
    |with_reducible first|apply aiA|intro _
   all_goals try exact clz
 ·have k0:((ws.length:Int)=m)=False:=eq_false (by omega)
  have hV:R=false:=by rw [hR];exact decide_eq_false fun hc=>g hc.1
  rw [hV]
  refine acO qrr ?_
  simp (disch:=omega) only [qsv,strs,k0,go_sem]
  repeat' first
   |((first|apply qd|apply qb);exact rvk;simp only [go_sem];first|exact ql|apply qe|apply qa|apply qf|skip)
   |with_reducible first|apply aiA|intro _
  all_goals try exact clz
theorem qBZ (a b:List Str) (h:List AObj) (h1:a.length≤1000000000) (h2:b.length≤1000000000):
  ACalls Tryz.prog 103 [strs a,strs b] h (.bool (decide (a=b))) h:=by
 have c:=smw a b.length (fun j=>b.getD j []) h h1 h2
 have e:decide (a.length=b.length∧ ∀i,i<a.length→a.getD i []=b.getD i [])=decide (a=b):=decide_eq_decide.2 (j9 ([]:Str)).symm
 rw [e]at c
 exact c
def qcq (names:List Str) (gs:List Gr) (e:En):Nat→List Int×Bool
 |0=>(jq names gs e.sup,false)
 |i+1=>(jl (fun k=>decide ((k:Int)∈(qcq names gs e i).1)||decide ((k:Int)∈jq names gs (e.vars.getD i default).sigla)) 64,(qcq names gs e i).2||(qcq names gs e i).1.any fun x=>decide (x∈jq names gs (e.vars.getD i default).sigla))
theorem qbb (names:List Str) (gs:List Gr) (e:En) (i:Nat):qcq names gs e (i+1)=(jl (fun k=>decide ((k:Int)∈(qcq names gs e i).1)||decide ((k:Int)∈jq names gs (e.vars.getD i default).sigla)) 64,(qcq names gs e i).2||(qcq names gs e i).1.any fun x=>decide (x∈jq names gs (e.vars.getD i default).sigla)):=rfl
theorem qg2 (names:List Str) (gs:List Gr) (sg:List Str):qep 64 (jq names gs sg)=0∧(jq names gs sg).length≤64:=by
 unfold jq
 split
 ·exact ⟨qhf (by omega),zL _ _⟩
 ·exact ⟨rfl,Nat.zero_le _⟩
theorem qsi (names:List Str) (gs:List Gr) (e:En) (i:Nat):qep 64 (qcq names gs e i).1=0∧(qcq names gs e i).1.length≤64:=by
 cases i with
 |zero=>exact qg2 _ _ _
 |succ i=>rw [qbb];exact ⟨qhf (by omega),zL _ _⟩
theorem qoy (L:List Int): ∀(C:List Int) (j:Nat),L.Nodup→(∀x∈L,0≤x∧x<C.length)→j<C.length→(qdh C L).getD j 0=C.getD j 0+if (j:Int)∈L then 1 else 0:=by
 induction L with
 |nil=>intro C j _ _ _;simp [qdh]
 |cons n L ih=>
  intro C j hn hL hj
  obtain ⟨h1,h2⟩:=List.nodup_cons.1 hn
  have hb:=hL n (by simp)
  show (qdh (C.set n.toNat (C.getD n.toNat 0+1)) L).getD j 0=_
  rw [ih _ j h2 (fun x hx=>by rw [List.length_set];exact hL x (by simp [hx])) (by rw [List.length_set];exact hj)]
  by_cases e:(j:Int)=n
  ·have e2:n.toNat=j:=by omega
   have e3: ¬(j:Int)∈L:=by rw [e];exact h1
   rw [if_neg e3,if_pos (by rw [e];simp),e2]
   have:(C.set j (C.getD j 0+1)).getD j 0=C.getD j 0+1:=by
    rw [gdqA,List.getElem?_set_self hj];rfl
   rw [this]
   omega
  ·have e2: ¬n.toNat=j:=by omega
   have:(C.set n.toNat (C.getD n.toNat 0+1)).getD j 0=C.getD j 0:=by
    rw [gdqA,List.getElem?_set_ne e2,←gdqA]
   rw [this]
   congr 1
   simp [e]
theorem qaK (p:Nat→Bool) (n:Nat):(jl p n).Nodup:=by
 unfold jl
 rw [List.Nodup,List.pairwise_map]
 refine List.Pairwise.imp ?_ (List.Pairwise.filter _ List.nodup_range)
 intro a b hab hc
 exact hab (by have hx:(a:Int)=(b:Int):=hc;omega)
theorem qdC (names:List Str) (gs:List Gr) (sg:List Str):(jq names gs sg).Nodup:=by
 unfold jq
 split
 ·exact qaK _ _
 ·exact List.nodup_nil
structure qAu (A:List Int) (B:Bool) (C:List Int):Prop where
 len:C.length=32
 rng: ∀x∈A,0≤x∧x<32
 mem: ∀k:Nat,k<32→((k:Int)∈A↔1≤C.getD k 0)
 nn: ∀k:Nat,k<32→0≤C.getD k 0
 tw:B=true↔ ∃k:Nat,k<32∧1<C.getD k 0
theorem qhc {A O A' C:List Int} {B:Bool} (h:qAu A B C) (ho:O.Nodup) (hr: ∀x∈O,0≤x∧x<32) (hA: ∀x,x∈A'↔x∈A∨x∈O):qAu A' (B||A.any fun x=>decide (x∈O)) (qdh C O):=by
 have hl:=h.len
 have hg:=fun (k:Nat) (hk:k<32)=>qoy O C k ho (fun x hx=>by have:=hr x hx;omega) (by omega)
 refine ⟨by rw [qcr,hl],fun x hx=> ?_,fun k hk=> ?_,fun k hk=> ?_,?_⟩
 ·rcases (hA x).1 hx with hx|hx
  ·exact h.rng x hx
  ·exact hr x hx
 ·rw [hA,h.mem k hk,hg k hk]
  have:=h.nn k hk
  by_cases e:(k:Int)∈O
  ·rw [if_pos e]
   exact ⟨fun _=>by omega,fun _=> .inr e⟩
  ·rw [if_neg e]
   constructor
   ·rintro (h1|h1)
    ·omega
    ·exact absurd h1 e
   ·intro h1;exact .inl (by omega)
 ·rw [hg k hk]
  have:=h.nn k hk
  split<;>omega
 ·rw [Bool.or_eq_true,h.tw,List.any_eq_true]
  constructor
  ·rintro (⟨k,hk,h1⟩|⟨x,hx,h1⟩)
   ·refine ⟨k,hk,?_⟩
    rw [hg k hk]
    split<;>omega
   ·have h1:=of_decide_eq_true h1
    have hx2:=h.rng x hx
    have e:((x.toNat:Nat):Int)=x:=by omega
    refine ⟨x.toNat,by omega,?_⟩
    rw [hg _ (by omega),e,if_pos h1]
    have:=(h.mem x.toNat (by omega)).1 (by rw [e];exact hx)
    omega
  ·rintro ⟨k,hk,h1⟩
   rw [hg k hk]at h1
   by_cases e:(k:Int)∈O
   ·rw [if_pos e]at h1
    exact .inr ⟨(k:Int),(h.mem k hk).2 (by omega),decide_eq_true e⟩
   ·rw [if_neg e]at h1
    exact .inl ⟨k,hk,by omega⟩
theorem qt4:qAu [] false (List.replicate 32 0):=by
 have g: ∀k:Nat,k<32→(List.replicate 32 (0:Int)).getD k 0=0:=fun k hk=>by
  rw [gdqA,List.getElem?_replicate,if_pos hk];rfl
 refine ⟨by simp,fun x hx=>by simp at hx,fun k hk=> ?_,fun k hk=> ?_,?_⟩
 ·rw [g k hk];simp
 ·rw [g k hk];omega
 ·constructor
  ·intro h;cases h
  ·rintro ⟨k,hk,h1⟩;rw [g k hk]at h1;omega
theorem qjt (names:List Str) (gs:List Gr) (e:En): ∀i,qAu (qcq names gs e i).1 (qcq names gs e i).2 (cnt names gs e i):=by
 have hO:=fun sg=>jS (@qg1 names gs sg)
 intro i
 induction i with
 |zero=>
  have:=qhc (A':=jq names gs e.sup) qt4 (qdC names gs e.sup) (hO e.sup) (fun x=>by simp)
  exact this
 |succ i ih=>
  rw [qbb]
  unfold cnt
  refine qhc ih (qdC _ _ _) (hO _) (fun x=> ?_)
  rw [qaJ]
  constructor
  ·rintro ⟨k,hk,h1,rfl⟩
   simpa using h1
  ·intro hx
   have hb:0≤x∧x<32:=by
    rcases hx with hx|hx
    ·exact ih.rng x hx
    ·exact hO _ x hx
   have e:((x.toNat:Nat):Int)=x:=by omega
   refine ⟨x.toNat,by omega,?_,e.symm⟩
   simp only [e]
   simpa using hx
theorem qcD (names:List Str) (gs:List Gr) (e:En) (i:Nat):qnE (cnt names gs e i)=(qcq names gs e i).2:=by
 have h:=qjt names gs e i
 unfold qnE
 rw [h.len,Bool.eq_iff_iff,h.tw,qG]
 simp only [decide_eq_true_eq]
def inV (names:List Str) (gs:List Gr) (e:En) (src:Int) (i:Nat):Bool:=decide (src∈jq names gs (e.vars.getD i default).sigla)
def vIx (names:List Str) (gs:List Gr) (e:En) (src:Int):Int:=qad (inV names gs e src) e.vars.length 0
def qgR (a b:En):Bool:=decide (a.frm<b.frm)||decide (a.frm=b.frm)&&decide (a.to<b.to)
end RC
end
section
open Go Go.Proofs AF
def qt2:List Nat:= [132,109,174,220,68]
def qwv:C:=
 ((C.ops [MC 2 (.bool false)]).seq ((C.ops [MV 3 0,MV 4 0,BI 5 .neq 3 4,MV 2 5]).seq
 C.ret))
theorem qx2:qN Tryz.prog 195 6 0 [RV.tmp 2] qwv:=fi Tryz.f195 [] qt2 []
end
section
open Go Go.Proofs AF HY LN
namespace RC
def qro (a b:Int):Int:=if a<b then-1 else if b<a then 1 else 0
theorem qCI (a:Int) (h:List AObj):ACalls Tryz.prog 195 [.int .i64 a] h (.bool false) h:=by
 have k:(a=a)=True:=eq_true rfl
 refine acO qx2 ?_
 simp (disch:=omega) only [qwv,k,go_sem]
 repeat' first
  |((first|apply qd|apply qb);exact rvk;simp only [go_sem];first|exact ql|apply qe|apply qa|apply qf|skip)
  |with_reducible first|apply aiA|intro _
 all_goals try exact clz
theorem qDe (a b:Int) (h:List AObj):ACalls Tryz.prog 141 [.int .i64 a,.int .i64 b] h (.int .i64 (qro a b)) h:=by
 have c1:=fun h=>qCI a h
 have c2:=fun h=>qCI b h
 unfold qro
 by_cases g1:a<b
 ·have k1:(a<b)=True:=eq_true g1
  rw [if_pos g1]
  refine acO qlv ?_
  simp (disch:=omega) only [qoA,k1,go_sem]
  repeat' first
   |((first|refine cA (c1 _) ?_ ?_|refine cG (fun e=>c1 _) ?_ ?_|refine cA (c2 _) ?_ ?_|refine cG (fun e=>c2 _) ?_ ?_|refine cU (fun _=>c1 _) ?_ ?_|refine cU (fun _=>c2 _) ?_ ?_);exact flk;simp (disch:=omega) only [k1,go_sem])
   |((first|apply qd|apply qb);exact rvk;simp only [go_sem];first|exact ql|apply qe|apply qa|apply qf|skip)
   |with_reducible first|apply aiA|intro _
  all_goals try exact clz
 have k1:(a<b)=False:=eq_false g1
 rw [if_neg g1]
 by_cases g2:b<a
 ·have k2:(b<a)=True:=eq_true g2
  rw [if_pos g2]
  refine acO qlv ?_
  simp (disch:=omega) only [qoA,k1,k2,go_sem]
  repeat' first
   |((first|refine cA (c1 _) ?_ ?_|refine cG (fun e=>c1 _) ?_ ?_|refine cA (c2 _) ?_ ?_|refine cG (fun e=>c2 _) ?_ ?_|refine cU (fun _=>c1 _) ?_ ?_|refine cU (fun _=>c2 _) ?_ ?_);exact flk;simp (disch:=omega) only [k1,k2,go_sem])
   |((first|apply qd|apply qb);exact rvk;simp only [go_sem];first|exact ql|apply qe|apply qa|apply qf|skip)
   |with_reducible first|apply aiA|intro _
  all_goals try exact clz
 ·have k2:(b<a)=False:=eq_false g2
  rw [if_neg g2]
  refine acO qlv ?_
  simp (disch:=omega) only [qoA,k1,k2,go_sem]
  repeat' first
   |((first|refine cA (c1 _) ?_ ?_|refine cG (fun e=>c1 _) ?_ ?_|refine cA (c2 _) ?_ ?_|refine cG (fun e=>c2 _) ?_ ?_|refine cU (fun _=>c1 _) ?_ ?_|refine cU (fun _=>c2 _) ?_ ?_);exact flk;simp (disch:=omega) only [k1,k2,go_sem])
   |((first|apply qd|apply qb);exact rvk;simp only [go_sem];first|exact ql|apply qe|apply qa|apply qf|skip)
   |with_reducible first|apply aiA|intro _
  all_goals try exact clz
end RC
end
section
namespace RC
variable {α : Type}
def qdl (lt:α→α→Bool) (x:α):List α→List α
 | []=> [x]
 |y::r=>if lt x y=true then y::qdl lt x r else x::y::r
def qfv (lt:α→α→Bool):List α→List α→List α
 |acc,[]=>acc
 |acc,x::r=>qfv lt (qdl lt x acc) r
def qvZ (lt:α→α→Bool):Prop:= ∀a b c,lt a b=false→lt b c=false→lt a c=false
def Asy (lt:α→α→Bool):Prop:= ∀a b,lt a b=true→lt b a=false
def qvN (lt:α→α→Bool) (l:List α):Prop:=l.Pairwise fun a b=>lt a b=false
theorem qpy {lt:α→α→Bool} {x:α}: ∀ {l:List α} {z:α},z∈qdl lt x l↔z=x∨z∈l:=by
 intro l
 induction l with
 |nil=>intro z;simp [qdl]
 |cons y r ih=>
  intro z
  unfold qdl
  split
  ·simp only [List.mem_cons,ih]
   constructor
   ·rintro (h|h|h)
    ·exact .inr (.inl h)
    ·exact .inl h
    ·exact .inr (.inr h)
   ·rintro (h|h|h)
    ·exact .inr (.inl h)
    ·exact .inl h
    ·exact .inr (.inr h)
  ·simp
theorem qcX {lt:α→α→Bool} (hn:qvZ lt) (ha:Asy lt) {x:α}: ∀ {l:List α},qvN lt l→qvN lt (qdl lt x l):=by
 intro l
 induction l with
 |nil=>intro _;exact List.pairwise_singleton _ _
 |cons y r ih=>
  intro h
  obtain ⟨h1,h2⟩:=List.pairwise_cons.1 h
  unfold qdl
  by_cases g:lt x y=true
  ·rw [if_pos g]
   refine List.pairwise_cons.2 ⟨fun z hz=> ?_,ih h2⟩
   rcases qpy.1 hz with rfl|hz
   ·exact ha _ _ g
   ·exact h1 z hz
  ·rw [if_neg g]
   have g:lt x y=false:=by simpa using g
   refine List.pairwise_cons.2 ⟨fun z hz=> ?_,h⟩
   rcases List.mem_cons.1 hz with rfl|hz
   ·exact g
   ·exact hn _ _ _ g (h1 z hz)
theorem qlM {lt:α→α→Bool} {x:α} {l:List α} (h: ∀z∈l,lt x z=false):qdl lt x l=x::l:=by
 cases l with
 |nil=>rfl
 |cons y r=>
  unfold qdl
  rw [if_neg (by rw [h y (by simp)];simp)]
theorem qf6 {lt:α→α→Bool} (hn:qvZ lt) (p:α→Bool) (x:α): ∀ {l:List α},qvN lt l→(qdl lt x l).filter p=if p x=true then qdl lt x (l.filter p) else l.filter p:=by
 intro l
 induction l with
 |nil=>intro _;unfold qdl;by_cases h:p x=true<;>simp [h,qdl]
 |cons y r ih=>
  intro h
  obtain ⟨h1,h2⟩:=List.pairwise_cons.1 h
  by_cases g:lt x y=true
  ·have e:qdl lt x (y::r)=y::qdl lt x r:=by rw [qdl,if_pos g]
   rw [e,List.filter_cons,List.filter_cons,ih h2]
   by_cases hy:p y=true
   ·rw [if_pos hy,if_pos hy]
    by_cases hx:p x=true
    ·rw [if_pos hx,if_pos hx,qdl,if_pos g]
    ·rw [if_neg hx,if_neg hx]
   ·rw [if_neg hy,if_neg hy]
  ·have e:qdl lt x (y::r)=x::y::r:=by rw [qdl,if_neg g]
   have g:lt x y=false:=by simpa using g
   rw [e]
   by_cases hx:p x=true
   ·rw [if_pos hx,List.filter_cons,if_pos hx,qlM]
    intro z hz
    rcases List.mem_cons.1 (List.mem_filter.1 hz).1 with rfl|hz
    ·exact g
    ·exact hn _ _ _ g (h1 z hz)
   ·rw [if_neg hx,List.filter_cons,if_neg hx]
theorem qeU {lt:α→α→Bool} (hn:qvZ lt) (ha:Asy lt) (p:α→Bool): ∀(l acc:List α),qvN lt acc→(qfv lt acc l).filter p=qfv lt (acc.filter p) (l.filter p):=by
 intro l
 induction l with
 |nil=>intro acc _;rfl
 |cons x r ih=>
  intro acc h
  rw [qfv,ih _ (qcX hn ha h),qf6 hn p x h,List.filter_cons]
  by_cases hx:p x=true
  ·rw [if_pos hx,if_pos hx,qfv]
  ·rw [if_neg hx,if_neg hx]
theorem qfw {lt:α→α→Bool} (hn:qvZ lt) (ha:Asy lt): ∀(l acc:List α),qvN lt acc→qvN lt (qfv lt acc l):=by
 intro l
 induction l with
 |nil=>intro acc h;exact h
 |cons x r ih=>intro acc h;exact ih _ (qcX hn ha h)
end RC
end
section
namespace RC
variable {α : Type}
end RC
end
section
open Go Go.Proofs AF HY LN
namespace RC
theorem qbc {a b:En}:qgR a b=true↔a.frm<b.frm∨a.frm=b.frm∧a.to<b.to:=by
 unfold qgR
 simp [Bool.or_eq_true,Bool.and_eq_true]
theorem qbF {a b:En}:qgR a b=false↔b.frm<a.frm∨a.frm=b.frm∧b.to≤a.to:=by
 have:= @qbc a b
 cases h:qgR a b with
 |true=>rw [h]at this;simp only [true_iff]at this;simp only [Bool.true_eq_false,false_iff];omega
 |false=>rw [h]at this;simp only [Bool.false_eq_true,false_iff]at this;simp only [true_iff];omega
theorem qgT:qvZ qgR:=by
 intro a b c h1 h2
 rw [qbF]at*
 omega
theorem qgS:Asy qgR:=by
 intro a b h
 rw [qbc]at h
 rw [qbF]
 omega
def qvX (l:List En):List En:=(qfv qgR [] l).reverse
def qDu (names:List Str) (gs:List Gr) (src:Int) (e:En):Bool:=decide (0≤vIx names gs e src)
def ofE (names:List Str) (gs:List Gr) (l:List En) (src:Int):List En:=(qvX l).filter (qDu names gs src)
theorem qlN {α:Type} {lt:α→α→Bool} {x:α}: ∀l:List α,(qdl lt x l).Perm (x::l):=by
 intro l
 induction l with
 |nil=>exact List.Perm.refl _
 |cons y r ih=>
  unfold qdl
  split
  ·exact (List.Perm.cons y ih).trans (List.Perm.swap x y r)
  ·exact List.Perm.refl _
theorem qiN {α:Type} {lt:α→α→Bool}: ∀l acc:List α,(qfv lt acc l).Perm (acc++l):=by
 intro l
 induction l with
 |nil=>intro acc;rw [List.append_nil];exact List.Perm.refl _
 |cons x r ih=>
  intro acc
  refine (ih _).trans ((List.Perm.append_right r (qlN acc)).trans ?_)
  exact (List.perm_middle (a:=x) (l₁:=acc) (l₂:=r)).symm
theorem qfy (l:List En):(qvX l).Perm l:=(List.reverse_perm _).trans (by simpa using qiN (lt:=qgR) l [])
theorem qgu (l:List En):(qvX l).Pairwise fun a b=>qgR b a=false:=by
 unfold qvX
 rw [List.pairwise_reverse]
 exact qfw qgT qgS l [] List.Pairwise.nil
def qcO (a b:En):Bool:=decide (b.frm<a.to)||decide (a.frm=b.frm)&&decide (a.to=b.to)
def qau:List En→Bool
 |a::b::r=>qcO a b||qau (b::r)
 |_=>false
theorem qkR (L:List En):qau L=true↔ ∃i,i+1<L.length∧qcO (L.getD i default) (L.getD (i+1) default)=true:=by
 induction L with
 |nil=>simp [qau]
 |cons a L ih=>
  cases L with
  |nil=>simp [qau]
  |cons b r=>
   rw [qau,Bool.or_eq_true,ih]
   constructor
   ·rintro (h|⟨i,h1,h2⟩)
    ·exact ⟨0,by simp,h⟩
    ·exact ⟨i+1,by simpa using h1,h2⟩
   ·rintro ⟨i,h1,h2⟩
    cases i with
    |zero=>exact .inl h2
    |succ i=>exact .inr ⟨i,by simpa using h1,h2⟩
def qgQ (names:List Str) (gs:List Gr) (l:List En):Bool:=zd (fun s=>qau (ofE names gs l (s:Int))) names.length
def qbC (L:List En):List AV:=L.flatMap enC
theorem qf3 (e:En):(enC e).length=6:=rfl
theorem qgZ (L:List En):(qbC L).length=L.length*6:=by
 unfold qbC
 induction L with
 |nil=>rfl
 |cons a L ih=>rw [List.flatMap_cons,List.length_append,ih,List.length_cons,qf3];omega
theorem qo3 (A B:List En):qbC (A++B)=qbC A++qbC B:=by simp [qbC]
theorem qo5 (a:En):qbC [a]=enC a:=by simp [qbC]
theorem qlb (L:List En): ∀i,(qbC L).drop (i*6)=qbC (L.drop i):=by
 induction L with
 |nil=>intro i;simp [qbC]
 |cons a L ih=>
  intro i
  cases i with
  |zero=>simp
  |succ i=>
   have e:qbC (a::L)=enC a++qbC L:=rfl
   rw [List.drop_succ_cons,e,List.drop_append,qf3,show (i+1)*6-6=i*6 by omega,ih]
   rw [List.drop_eq_nil_of_le (by rw [qf3];omega)]
   rfl
theorem qo4 {L:List En} {i:Nat} (hi:i<L.length):((qbC L).drop (i*6)).take 6=enC (L.getD i default):=by
 rw [qlb,List.drop_eq_getElem_cons hi,gdqA,qZ hi]
 rfl
theorem qdx {a:En} {r:List En} (h:qau (a::r)=false):qau r=false:=by
 cases r with
 |nil=>rfl
 |cons b r=>rw [qau,Bool.or_eq_false_iff]at h;exact h.2
theorem qnr {L:List En} (hs:L.Pairwise fun a b=>qgR b a=false) (hc:qau L=false):L.Pairwise fun a b=>qgR a b=true:=by
 induction L with
 |nil=>exact List.Pairwise.nil
 |cons a r ih=>
  obtain ⟨h1,h2⟩:=List.pairwise_cons.1 hs
  have h3:=ih h2 (qdx hc)
  refine List.pairwise_cons.2 ⟨?_,h3⟩
  cases r with
  |nil=>intro z hz;cases hz
  |cons b r=>
   have hab:qgR a b=true:=by
    rw [qau,Bool.or_eq_false_iff]at hc
    have h5:=hc.1
    unfold qcO at h5
    rw [Bool.or_eq_false_iff,Bool.and_eq_false_imp,decide_eq_false_iff_not,decide_eq_true_iff,decide_eq_false_iff_not]at h5
    have h4:=h1 b (by simp)
    rw [qbF]at h4
    rw [qbc]
    obtain ⟨h5,h6⟩:=h5
    by_cases e:a.frm=b.frm
    ·have:=h6 e;omega
    ·omega
   intro z hz
   rcases List.mem_cons.1 hz with rfl|hz
   ·exact hab
   ·have h6:=(List.pairwise_cons.1 h3).1 z hz
    rw [qbc]at*
    omega
theorem qoO {L:List En} (hc:qau L=false) {i:Nat} (hi:i+1<L.length):(L.getD i default).to≤(L.getD (i+1) default).frm:=by
 cases h:qcO (L.getD i default) (L.getD (i+1) default)with
 |true=>rw [(qkR L).2 ⟨i,hi,h⟩]at hc;cases hc
 |false=>
  unfold qcO at h
  rw [Bool.or_eq_false_iff,decide_eq_false_iff_not]at h
  omega
theorem qiq (names:List Str) (gs:List Gr) (l:List En) (src:Int):(ofE names gs l src).Pairwise fun a b=>qgR b a=false:=List.Pairwise.filter _ (qgu l)
theorem qaQ {names:List Str} {gs:List Gr} {l:List En} (h:qgQ names gs l=false) {s:Nat} (hs:s<names.length):qau (ofE names gs l (s:Int))=false:=
 qp.1 h s hs
structure qvL (names:List Str) (gs:List Gr) (t:List Str) (l:List En):Prop where
 sg:sgE names gs=0
 n:l.length≤4096
 ck: ∀e∈l,qA0 names gs t e=0
 cl:qgQ names gs l=false
structure qAG (names:List Str) (gs:List Gr) (t:List Str) (e:En):Prop where
 sg:sgE names gs=0
 tn:t.length≤4096
 tw:qn7 t=0
 lay:0≤e.layer∧e.layer<16
 rng:0≤e.frm∧e.frm≤e.to∧e.to≤t.length
 sp:0<e.sup.length→e.pos=true
 ne:e.vars.length≠0
 va: ∀i,i<e.vars.length→qq9 t e i=0
 es:qaW names gs e.sup=0
 ev: ∀i,i<e.vars.length→qaW names gs (e.vars.getD i default).sigla=0
 tc:(qcq names gs e e.vars.length).2=false
theorem qkQ {names:List Str} {gs:List Gr} {t:List Str} {e:En}:qA0 names gs t e=0↔qAG names gs t e:=by
 unfold qA0
 constructor
 ·intro h
  split at h
  ·cases h
  rename_i h1
  split at h
  ·cases h
  rename_i h2
  split at h
  ·cases h
  rename_i h3
  split at h
  ·cases h
  rename_i h4
  split at h
  ·cases h
  rename_i h5
  split at h
  ·cases h
  rename_i h6
  split at h
  ·rename_i h7;exact absurd h h7
  rename_i h7
  split at h
  ·rename_i h8;exact absurd h h8
  rename_i h8
  split at h
  ·rename_i h9;exact absurd h h9
  rename_i h9
  split at h
  ·cases h
  rename_i h10
  unfold qvV at h4
  refine ⟨Classical.not_not.1 h1,by omega,Classical.not_not.1 h3,by omega,by omega,fun h=> ?_,h6,jZ.1 (Classical.not_not.1 h7),Classical.not_not.1 h8,jZ.1 (Classical.not_not.1 h9),?_⟩
  ·cases hp:e.pos with
   |true=>rfl
   |false=>exact absurd ⟨h,hp⟩ h5
  ·rw [qcD]at h10
   simpa using h10
 ·rintro ⟨h1,h2,h3,h4,h5,h6,h7,h8,h9,h10,h11⟩
  have hr: ¬qvV t e:=by unfold qvV;omega
  rw [if_neg (fun hc=>hc h1),if_neg (by omega),if_neg (fun hc=>hc h3),if_neg hr,if_neg (by rintro ⟨a,b⟩;rw [h6 a]at b;cases b),if_neg h7,if_neg (fun hc=>hc (qY (f:=qq9 t e) h8)),if_neg (fun hc=>hc h9),
   if_neg (fun hc=>hc (qY (f:=fun i=>qaW names gs (e.vars.getD i default).sigla) h10)),if_neg (by rw [qcD,h11];simp)]
theorem qju (names:List Str) (gs:List Gr) (e:En): ∀i,(qcq names gs e i).2=false→ ∀x:Int,(x∈(qcq names gs e i).1↔x∈jq names gs e.sup∨ ∃j,j<i∧x∈jq names gs (e.vars.getD j default).sigla):=by
 intro i
 induction i with
 |zero=>intro _ x;simp [qcq]
 |succ i ih=>
  intro h x
  rw [qbb]at h ⊢
  simp only [Bool.or_eq_false_iff]at h
  have hi:=ih h.1 x
  have hb1:x∈(qcq names gs e i).1→0≤x∧x<64:=fun hx=>jS (qaE (qsi names gs e i).1).1 x hx
  have hb2:x∈jq names gs (e.vars.getD i default).sigla→0≤x∧x<64:=fun hx=>jS (qaE (qg2 names gs _).1).1 x hx
  have hm:x∈jl (fun k=>decide ((k:Int)∈(qcq names gs e i).1)||decide ((k:Int)∈jq names gs (e.vars.getD i default).sigla)) 64↔x∈(qcq names gs e i).1∨x∈jq names gs (e.vars.getD i default).sigla:=by
   unfold jl
   rw [List.mem_map]
   constructor
   ·rintro ⟨k,hk,rfl⟩
    have:=(List.mem_filter.1 hk).2
    simpa [Bool.or_eq_true] using this
   ·intro hx
    have hb:0≤x∧x<64:=hx.elim hb1 hb2
    refine ⟨x.toNat,List.mem_filter.2 ⟨List.mem_range.2 (by omega),?_⟩,by simp;omega⟩
    rw [show ((x.toNat:Nat):Int)=x by omega]
    simpa [Bool.or_eq_true] using hx
  simp only [hm,hi]
  constructor
  ·rintro ((h|⟨j,hj,hx⟩)|hx)
   ·exact .inl h
   ·exact .inr ⟨j,by omega,hx⟩
   ·exact .inr ⟨i,by omega,hx⟩
  ·rintro (h|⟨j,hj,hx⟩)
   ·exact .inl (.inl h)
   ·by_cases e':j=i
    ·subst e';exact .inr hx
    ·exact .inl (.inr ⟨j,by omega,hx⟩)
section
variable {k v w : Nat} {h : List AObj} {o o' : AObj} {ty : TypeId} {cs : List AV}
end
theorem low_setO {k v:Nat} {h:List AObj} {ty:TypeId} {cs:List AV} (hl: ∀n,∀c∈cs,lowV n c=true): ∀o∈setO k h (.mem v ty cs),o∈h∨lowO h.length o:=by
 intro o ho
 rcases qec ho with h1|rfl
 ·exact .inl h1
 ·exact .inr (fun c hc=>hl _ c hc)
end RC
end
section
open Go Go.Proofs AF HY LN
namespace AF
theorem Wk.cells {t:List AV} {h:List AObj} {j v:Nat} {ty:TypeId} {cs cs':List AV} (hj:qF j h=some (.mem v ty cs)) (hc:qbD cs cs'):Wk t h t (setO j h (.mem v ty cs')):=by
 intro N w σ a H
 have hjl:j<σ.length:=by rw [H.hr.len];exact jg hj
 have ho:=qZ hjl
 obtain ⟨m1,m2,b,arr,m3,m4,m5,m6,m7,m8⟩:=H.hr.obj j _ _ hj ho
 have q:=H.hr.recell (cs':=cs') hj ho m3 m4 m5 (by rw [hc.length];exact m6) (fun i x hi hx=>m7 i x (by rw [←hc.length];exact hi) hx) (fun i c x hi hx=>by
  obtain ⟨c0,h1,h2⟩:=hc.get i c hi
  exact h2 _ _ _ (m8 i c0 x h1 hx))
 exact ⟨σ,⟨q,H.sz,H.tm,H.df⟩,Ext.refl _ _⟩
end AF
namespace RC
end RC
end
section
open Go Go.Proofs AF HY LN
namespace RC
theorem qsn (L:List Int) (src:Int):zd (fun j=>decide (src=L.getD j 0)) L.length=decide (src∈L):=by
 by_cases h:src∈L
 ·rw [decide_eq_true h,qG]
  obtain ⟨j,hj,e⟩:=List.getElem_of_mem h
  exact ⟨j,hj,decide_eq_true (by rw [gdqA,qZ hj];exact e.symm)⟩
 ·rw [decide_eq_false h,qp]
  intro j hj
  refine decide_eq_false fun e=>h ?_
  rw [e,gdqA,qZ hj]
  exact List.getElem_mem hj
theorem qA5 (L:List Int) (x:Int) (h:List AObj) (hn:L.length≤1000000000):ACalls Tryz.prog 135 [qo L,.int .i64 x] h (.bool (decide (x∈L))) h:=by
 have:=qy6 qx1 L.length (fun j=> .i (L.getD j 0)) (.i x) h (fun _ _=>rfl) (by omega)
 simp only [At.v,At.i.injEq]at this
 have c:=qjo qxM ⟨rfl,rfl⟩ ⟨rfl,rfl⟩ this
 rw [←qsn]
 exact c
def stV (names:List Str) (gs:List Gr) (e:En):AV:= .sl e.vars.length fun j=> [qo (jq names gs (e.vars.getD j default).sigla)]
def msV (names:List Str) (gs:List Gr) (L:List En):AV:= .sl L.length fun i=> [stV names gs (L.getD i default)]
theorem qpf (names:List Str) (gs:List Gr) (e:En):(stV names gs e).flag=true:=rfl
theorem qnx (names:List Str) (gs:List Gr) (e:En):(stV names gs e).strip=stV names gs e:=rfl
theorem qpd (names:List Str) (gs:List Gr) (L:List En):(msV names gs L).flag=true:=rfl
theorem qnv (names:List Str) (gs:List Gr) (L:List En):(msV names gs L).strip=msV names gs L:=rfl
theorem qtP {fz:Nat→Bool} {h:List AObj} {n:Nat} (names:List Str) (gs:List Gr) (e:En):frz fz h (n+1) (stV names gs e)=stV names gs e:=rfl
theorem quF {fz:Nat→Bool} {h:List AObj} {n:Nat} (names:List Str) (gs:List Gr) (e:En):rei fz h (n+1) (stV names gs e)=stV names gs e:=rfl
theorem qtO {fz:Nat→Bool} {h:List AObj} {n:Nat} (names:List Str) (gs:List Gr) (L:List En):frz fz h (n+1) (msV names gs L)=msV names gs L:=rfl
theorem quE {fz:Nat→Bool} {h:List AObj} {n:Nat} (names:List Str) (gs:List Gr) (L:List En):rei fz h (n+1) (msV names gs L)=msV names gs L:=rfl
attribute [go_sem] qpf qnx qpd qnv qtP quF qtO quE
end RC
end
section
open Go Go.Proofs AF HY LN
namespace AF
theorem qa3 {P:Program} {f:FuncId} {cap:List AV} {xs:List (List AV)} (hf:qvK P f cap xs) {ps:List Nat} {b:Nat} {x y:C} {Q:Ex→Nx} {ts:List AV} {h:List AObj} (hps: ∀a∈xs,a.length=ps.length)
  (S:Nat→List AObj→Prop) (E:Ex→List AObj→Prop) (hS: ∀i hh,S i hh→LowI h hh) (hE: ∀s hh,E s hh→LowI h hh)
  (start:S 0 h) (hts: ∀c∈ts,lowV (h.length+1) c=true)
  (body: ∀i hh tl L TS,(hi:i<xs.length)→S i hh→hh.length=h.length→ ∀(K:Nx) (K2:Ex→Nx),
   (∀t2 X hm,X=hm++ .lp .ready TS L::tl→hm.length=h.length→qV P b y K2 t2 (hm++ .lp .busy TS L::tl)→K t2 X)→
   (∀t3 X hh',X=hh'++ .lp .busy TS L::tl→hh'.length=h.length→S (i+1) hh'→K2 .normal t3 X)→
   (∀t3 X hh',X=hh'++ .lp .busy TS L::tl→hh'.length=h.length→E .ret hh'→K2 .ret t3 X)→
   (∀id t3 X hh',X=hh'++ .lp .busy TS L::tl→hh'.length=h.length→E (.exit id) hh'→K2 (.exit id) t3 X)→
   qV P b x (Ex.andThen K (fun _ _ _=>False)) (qcn ts ps (xs[i])) (hh++ .lp .ready TS L::tl))
  (done: ∀hh,S xs.length hh→Q .normal ts hh) (doneE: ∀e hh,E e hh→match e with
   | .normal=>False
   |e=>Q e ts hh):
  qfk P (.fn (.func f) [] cap) ps (qV P b x) (qV P b y) Q ts h:=by
 intro L hy
 show jE _ _ _ _ _
 have key:=hf h ts L S (fun s hh=>match s with
  | .ret=>E .ret hh
  | .exit id=>E (.exit id) hh
  |_=>False) hS
  (by
   intro s hh hs
   cases s with
   |ret=>exact hE _ _ hs
   |exit id=>exact hE _ _ hs
   |ready=>exact hs.elim
   |busy=>exact hs.elim)
  (by
   intro i hh tl hi i4
   have hlen:=(hS _ _ i4).1
   refine hy h.length ts _ _ _ (kQ hlen) (hps _ (List.getElem_mem hi)) ?_
   refine qaG (Q:=Ex.andThen (fun t2 h2=> ∃hm,hm.length=h.length∧h2=hm++ .lp .ready ts L::tl∧
    qV P b y (fun e t3 h3=> ∃hh',h3=hh'++ .lp .busy ts L::tl∧hh'.length=h.length∧match e with
     | .normal=>S (i+1) hh'
     | .ret=>E .ret hh'
     | .exit id=>E (.exit id) hh') t2 (hm++ .lp .busy ts L::tl)) (fun _ _ _=>False)) ?_
    (body i hh tl L ts hi i4 hlen _ _ (fun t2 X hm e1 e2 e3=>⟨hm,e2,e1,e3⟩) (fun t3 X hh' e1 e2 e3=>⟨hh',e1,e2,e3⟩) (fun t3 X hh' e1 e2 e3=>⟨hh',e1,e2,e3⟩) (fun id t3 X hh' e1 e2 e3=>⟨hh',e1,e2,e3⟩))
   intro e t2 h2 hq
   cases e with
   |ret=>exact hq.elim
   |exit id=>exact hq.elim
   |normal=>
    obtain ⟨hm,hml,rfl,h3⟩:=hq
    refine ⟨rfl,⟨ts,kQ hml⟩,fun ts' hts'=> ?_⟩
    rw [kQ hml]at hts'
    cases hts'
    rw [qch hml]
    refine qaG ?_ h3
    rintro e t3 h3' ⟨hh',rfl,g1,g2⟩
    refine ⟨ts,kQ g1,?_⟩
    cases e with
    |normal=>exact ⟨hh',.inl ⟨rfl,g2,qch g1⟩⟩
    |ret=>exact ⟨hh',.inr ⟨.ret,rfl,g2,qch g1⟩⟩
    |exit id=>exact ⟨hh',.inr ⟨.exit id,rfl,g2,qch g1⟩⟩)
  start hts
 refine key.le (qbD.refl _) ?_
 rintro v h' ⟨hh,⟨g1,rfl⟩|⟨s,g1,rfl⟩⟩
 ·have hl:=hS _ _ g1
  exact ⟨v,ql,hh,.ready,ts,L,rfl,hl.1,fun o ho=>(hl.2 o ho).imp (fun h=>h) And.left,done hh g1⟩
 ·cases s with
  |ready=>exact g1.elim
  |busy=>exact g1.elim
  |ret=>
   have hl:=hE _ _ g1
   exact ⟨v,ql,hh,.ret,ts,L,rfl,hl.1,fun o ho=>(hl.2 o ho).imp (fun h=>h) And.left,doneE _ _ g1⟩
  |exit id=>
   have hl:=hE _ _ g1
   exact ⟨v,ql,hh,.exit id,ts,L,rfl,hl.1,fun o ho=>(hl.2 o ho).imp (fun h=>h) And.left,doneE _ _ g1⟩
end AF
namespace RC
theorem qea (n:Nat) (L:List Str):lowV n (strs L)=true:=rfl
end RC
end
section
open Go Go.Proofs AF HY LN
namespace AF
theorem Wk.ownNil {t:List AV} {h:List AObj} {j v i k ve sz:Nat} {ty:TypeId} {cs:List AV} (hj:qF j h=some (.mem v ty cs)) (hi:cs[i]? =some .nl) (hk:qF k h=some (.emp ve)):
  Wk t h t (setO j h (.mem v ty (cs.set i (.osl k ve sz 0 0)))):=by
 intro N w σ a H
 have hjl:j<σ.length:=by rw [H.hr.len];exact jg hj
 have hkl:k<σ.length:=by rw [H.hr.len];exact jg hk
 have ho:=qZ hjl
 have hok:=qZ hkl
 obtain ⟨e1,e2⟩:=H.hr.obj k _ _ hk hok
 obtain ⟨m1,m2,b,arr,m3,m4,m5,m6,m7,m8⟩:=H.hr.obj j _ _ hj ho
 have q:=H.hr.recell (cs':=cs.set i (.osl k ve sz 0 0)) hj ho m3 m4 m5 (by simpa using m6) (fun n x hn hx=>m7 n x (by simpa using hn) hx) (fun n c x hn hx=>by
  rw [List.getElem?_set]at hn
  split at hn
  ·rename_i e
   subst e
   split at hn
   ·cases hn
    have hv:=m8 i _ x hi hx
    cases hv with
    |imm hv=>
     cases hv
     exact .osl _ hok ⟨none,0,0,rfl⟩ (Nat.le_of_eq e1.symm) (fun _=> .inl ⟨e2,rfl,rfl,rfl⟩)
   ·cases hn
  ·exact m8 n c x hn hx)
 exact ⟨σ,⟨q,H.sz,H.tm,H.df⟩,Ext.refl _ _⟩
end AF
namespace RC
structure qCV (t:List Str) (L:List En):Prop where
 rg: ∀i,i<L.length→0≤(L.getD i default).frm∧(L.getD i default).frm≤(L.getD i default).to∧(L.getD i default).to≤t.length
 nx: ∀i,i+1<L.length→(L.getD i default).to≤(L.getD (i+1) default).frm
theorem qud {names:List Str} {gs:List Gr} {l:List En} {src:Int} {e:En} (h:e∈ofE names gs l src):e∈l:=(qfy l).subset (List.mem_filter.1 h).1
theorem qcU {L:List En} {i:Nat} (hi:i<L.length):L.getD i default∈L:=by
 rw [gdqA,qZ hi]
 exact List.getElem_mem hi
theorem qvL.tx {names:List Str} {gs:List Gr} {t:List Str} {l:List En} (h:qvL names gs t l) {s:Nat} (hs:s<names.length):qCV t (ofE names gs l (s:Int)):=
 ⟨fun i hi=>(qkQ.1 (h.ck _ (qud (qcU hi)))).rng,fun i hi=>qoO (qaQ h.cl hs) hi⟩
end RC
end
section
open Go Go.Proofs AF HY LN
namespace RC
def quX (L:List (List Str)):AV:= .sl L.length fun i=> [strs (L.getD i [])]
theorem qid (L:List (List Str)):(quX L).flag=true:=rfl
theorem qgB (L:List (List Str)):(quX L).strip=quX L:=rfl
attribute [go_sem] qid qgB
theorem jT (L:List Str):(jv L).length=L.length:=by simp [jv]
theorem qcB (L M:List Str):jv (L++M)=jv L++jv M:=by simp [jv]
theorem qqK {L:List Str}:jv L= []↔L= []:=by simp [jv]
theorem qqM {L:List Str} {n:Nat} (g:AV→AV) (hg: ∀s,g (.str s)= .str s) (hn:n=L.length):VLe (.sl n fun i=>(((jv L).drop i).take 1).map g) (strs L):=by
 subst hn
 refine VLe.sl_eq rfl (fun i hi=> ?_)
 unfold jv
 rw [←List.map_drop,List.drop_eq_getElem_cons hi,List.map_cons,List.take_succ_cons,List.take_zero,List.map_cons,List.map_nil,hg,gdqA,qZ hi]
 rfl
theorem qpk {α β:Type} (f:α→β) (L:List α):L.flatMap (fun i=> [f i])=L.map f:=by
 induction L with
 |nil=>rfl
 |cons a L ih=>rw [List.flatMap_cons,ih];rfl
theorem qnk (h:List AObj) {t:List Str} {a b:Nat} (h1:a≤b) (h2:b≤t.length):qw h (.sl (b-a) fun i=> [.str (t.getD (a+i) [])])=some (b-a,jv (qco t a b)):=by
 show some (b-a,(List.range (b-a)).flatMap fun i=> [AV.str (t.getD (a+i) [])])=_
 rw [qpk (fun i=>AV.str (t.getD (a+i) []))]
 congr 2
 unfold jv qco
 apply List.ext_getElem
 ·simp;omega
 ·intro i g1 g2
  have hi:i<b-a:=by simpa using g1
  have hl:a+i<t.length:=by omega
  simp [gdqA,hl]
theorem qqJ (h:List AObj) (t:List Str):qw h (strs t)=some (t.length,jv t):=by
 have:=qnk h (t:=t) (a:=0) (b:=t.length) (Nat.zero_le _) (Nat.le_refl _)
 simp only [Nat.sub_zero,Nat.zero_add]at this
 have e:qco t 0 t.length=t:=by simp [qco]
 rw [e]at this
 exact this
def gwB (ws:List Str) (n:Nat):Bool:=zd (fun i=>decide (20<(ws.getD i []).length)) ws.length||decide (n<ws.length)
theorem jy {p:Nat→Bool} {i:Nat} (h: ∀j,j<i→p j=false) (hp:p i=false): ∀j,j<i+1→p j=false:=by
 intro j hj
 by_cases e:j=i
 ·subst e;exact hp
 ·exact h j (by omega)
theorem gwP (ws:List Str) (n:Nat) (h:List AObj) (hn:ws.length≤9223372036854775807):ACalls Tryz.prog 70 [strs ws,.int .i64 n] h (.bool (gwB ws n)) h:=by
 obtain ⟨R,hR⟩: ∃R,R=gwB ws n:=⟨_,rfl⟩
 rw [←hR]
 unfold gwB at hR
 refine acO qBp ?_
 simp (disch:=omega) only [qCu,strs,go_sem]
 repeat' first
  |((first|apply qd|apply qb);exact rvk;simp only [go_sem];first|exact ql|apply qe|apply qa|apply qf|skip)
  |with_reducible first|apply aiA|intro _
 all_goals try exact clz
 refine qt (T:=fun i:Nat=>qT 22 [(0,strs ws),(1,.int .i64 n),(5,.int .i64 i)]) (H:=fun _=>h) (inv:=fun i=>i≤ws.length∧ ∀j,j<i→(fun i=>decide (20<(ws.getD i []).length)) j=false) (m:=fun i=>ws.length-i) 0 ⟨Nat.zero_le _,fun j hj=>by omega⟩ (Wk.temps ?_) ?_
 ·(simp only [strs,go_sem,qk,qh,qg,qj];try (repeat' first|(with_reducible apply aiA)|(apply qe;omega)|(apply qa;rfl)|exact ql))
 rintro i ⟨i1,i2⟩ K hK
 by_cases hi:i<ws.length
 ·have k1:((i:Int)<ws.length)=True:=eq_true (by omega)
  by_cases g:20<(ws.getD i []).length
  ·have hV:R=true:=by rw [hR,qG.2 ⟨i,hi,decide_eq_true g⟩];rfl
   obtain ⟨s,hs⟩: ∃s,s=ws.getD i []:=⟨_,rfl⟩
   have es:=hs.symm
   rw [es]at g
   have k2:((20:Int)<s.length)=True:=eq_true (by omega)
   rw [hV]
   simp (disch:=omega) only [strs,k1,k2,es,go_sem]
   repeat' first
    |((first|apply qd|apply qb);exact rvk;simp only [go_sem];first|exact ql|apply qe|apply qa|apply qf|skip)
    |with_reducible first|apply aiA|intro _
   all_goals try exact clz
  ·have i3:=jy i2 (decide_eq_false g)
   obtain ⟨s,hs⟩: ∃s,s=ws.getD i []:=⟨_,rfl⟩
   have es:=hs.symm
   rw [es]at g
   have k2:((20:Int)<s.length)=False:=eq_false (by omega)
   simp (disch:=omega) only [strs,k1,k2,es,go_sem]
   repeat' first
    |((first|apply qd|apply qb);exact rvk;simp only [go_sem];first|exact ql|apply qe|apply qa|apply qf|skip)
    |with_reducible first|apply aiA|intro _
   all_goals try exact clz
   refine hK _ _ (i+1) ⟨hi,i3⟩ (by omega) (Wk.temps ?_)
   (simp only [strs,go_sem,qk,qh,qg,qj];try (repeat' first|(with_reducible apply aiA)|(apply qe;omega)|(apply qa;rfl)|exact ql))
 ·have k1:((i:Int)<ws.length)=False:=eq_false (by omega)
  rw [qp.2 (fun j hj=>i2 j (by omega)),Bool.false_or]at hR
  have e:decide ((n:Int)<ws.length)=R:=by rw [hR];exact decide_eq_decide.2 (by omega)
  simp (disch:=omega) only [strs,k1,go_sem]
  repeat' first
   |((first|apply qd|apply qb);exact rvk;simp only [go_sem];first|exact ql|apply qe|apply qa|apply qf|skip)
   |with_reducible first|apply aiA|intro _
  all_goals try exact clz
def grB (g:Gr):Bool:=decide (20<g.name.length)||decide (40<g.mem.length)
def qlB (names:List Str) (gs:List Gr):Bool:=
 zd (fun i=>decide (20<(names.getD i []).length)) names.length||(zd (fun i=>grB (gs.getD i default)) gs.length||
  (((decide (8<names.length)&&decide (names.length≤32))||decide (34<names.length))||(decide (5<gs.length)&&decide (gs.length≤16))||decide (18<gs.length)))
theorem qDr (names:List Str) (gs:List Gr) (h:List AObj) (hn:names.length≤9223372036854775807) (hg:gs.length≤9223372036854775807):ACalls Tryz.prog 69 [strs names,qE gs] h (.bool (qlB names gs)) h:=by
 obtain ⟨R,hR⟩: ∃R,R=qlB names gs:=⟨_,rfl⟩
 rw [←hR]
 unfold qlB at hR
 refine acO qBo ?_
 simp (disch:=omega) only [qCt,strs,qE,go_sem]
 repeat' first
  |((first|apply qd|apply qb);exact rvk;simp only [go_sem];first|exact ql|apply qe|apply qa|apply qf|skip)
  |with_reducible first|apply aiA|intro _
 all_goals try exact clz
 refine qt (T:=fun i:Nat=>qT 69 [(0,strs names),(1,qE gs),(5,.int .i64 i)]) (H:=fun _=>h) (inv:=fun i=>i≤names.length∧ ∀j,j<i→(fun i=>decide (20<(names.getD i []).length)) j=false) (m:=fun i=>names.length-i) 0 ⟨Nat.zero_le _,fun j hj=>by omega⟩ (Wk.temps ?_) ?_
 ·(simp only [strs,qE,go_sem,qk,qh,qg,qj];try (repeat' first|(with_reducible apply aiA)|(apply qe;omega)|(apply qa;rfl)|exact ql))
 rintro i ⟨i1,i2⟩ K hK
 by_cases hi:i<names.length
 ·have k1:((i:Int)<names.length)=True:=eq_true (by omega)
  by_cases g:20<(names.getD i []).length
  ·have hV:R=true:=by rw [hR,qG.2 ⟨i,hi,decide_eq_true g⟩];rfl
   obtain ⟨s,hs⟩: ∃s,s=names.getD i []:=⟨_,rfl⟩
   have es:=hs.symm
   rw [es]at g
   have k2:((20:Int)<s.length)=True:=eq_true (by omega)
   rw [hV]
   simp (disch:=omega) only [strs,qE,k1,k2,es,go_sem]
   repeat' first
    |((first|apply qd|apply qb);exact rvk;simp only [go_sem];first|exact ql|apply qe|apply qa|apply qf|skip)
    |with_reducible first|apply aiA|intro _
   all_goals try exact clz
  ·have i3:=jy i2 (decide_eq_false g)
   obtain ⟨s,hs⟩: ∃s,s=names.getD i []:=⟨_,rfl⟩
   have es:=hs.symm
   rw [es]at g
   have k2:((20:Int)<s.length)=False:=eq_false (by omega)
   simp (disch:=omega) only [strs,qE,k1,k2,es,go_sem]
   repeat' first
    |((first|apply qd|apply qb);exact rvk;simp only [go_sem];first|exact ql|apply qe|apply qa|apply qf|skip)
    |with_reducible first|apply aiA|intro _
   all_goals try exact clz
   refine hK _ _ (i+1) ⟨hi,i3⟩ (by omega) (Wk.temps ?_)
   (simp only [strs,qE,go_sem,qk,qh,qg,qj];try (repeat' first|(with_reducible apply aiA)|(apply qe;omega)|(apply qa;rfl)|exact ql))
 have k1:((i:Int)<names.length)=False:=eq_false (by omega)
 rw [qp.2 (fun j hj=>i2 j (by omega)),Bool.false_or]at hR
 simp (disch:=omega) only [strs,qE,k1,go_sem]
 repeat' first
  |((first|apply qd|apply qb);exact rvk;simp only [go_sem];first|exact ql|apply qe|apply qa|apply qf|skip)
  |with_reducible first|apply aiA|intro _
 all_goals try exact clz
 refine qt (T:=fun i:Nat=>qT 69 [(0,strs names),(1,qE gs),(6,.int .i64 i)]) (H:=fun _=>h) (inv:=fun i=>i≤gs.length∧ ∀j,j<i→(fun i=>grB (gs.getD i default)) j=false) (m:=fun i=>gs.length-i) 0 ⟨Nat.zero_le _,fun j hj=>by omega⟩ (Wk.temps ?_) ?_
 ·(simp only [strs,qE,go_sem,qk,qh,qg,qj];try (repeat' first|(with_reducible apply aiA)|(apply qe;omega)|(apply qa;rfl)|exact ql))
 clear hK K
 rintro i ⟨i1,i2⟩ K hK
 by_cases hi:i<gs.length
 ·have k1:((i:Int)<gs.length)=True:=eq_true (by omega)
  have hit:grB (gs.getD i default)=true→R=true:=fun hc=>by rw [hR,qG.2 ⟨i,hi,hc⟩];rfl
  have i3:=fun hc=>jy (p:=fun i=>grB (gs.getD i default)) i2 hc
  obtain ⟨g,hg⟩: ∃g,g=gs.getD i default:=⟨_,rfl⟩
  have eg:=hg.symm
  simp only [eg]at hit i3
  have hB:grB g=(decide (20<g.name.length)||decide (40<g.mem.length)):=rfl
  by_cases g1:20<g.name.length
  ·have k2:((20:Int)<g.name.length)=True:=eq_true (by omega)
   rw [hit (by rw [hB,decide_eq_true g1];rfl)]
   simp (disch:=omega) only [strs,qE,grC,k1,k2,eg,go_sem]
   repeat' first
    |((first|apply qd|apply qb);exact rvk;simp only [go_sem];first|exact ql|apply qe|apply qa|apply qf|skip)
    |with_reducible first|apply aiA|intro _
   all_goals try exact clz
  ·have k2:((20:Int)<g.name.length)=False:=eq_false (by omega)
   by_cases g2:40<g.mem.length
   ·have k3:((40:Int)<g.mem.length)=True:=eq_true (by omega)
    rw [hit (by rw [hB,decide_eq_true g2,Bool.or_true])]
    simp (disch:=omega) only [strs,qE,grC,qo,k1,k2,k3,eg,go_sem]
    repeat' first
     |((first|apply qd|apply qb);exact rvk;simp only [go_sem];first|exact ql|apply qe|apply qa|apply qf|skip)
     |with_reducible first|apply aiA|intro _
    all_goals try exact clz
   ·have k3:((40:Int)<g.mem.length)=False:=eq_false (by omega)
    simp (disch:=omega) only [strs,qE,grC,qo,k1,k2,k3,eg,go_sem]
    repeat' first
     |((first|apply qd|apply qb);exact rvk;simp only [go_sem];first|exact ql|apply qe|apply qa|apply qf|skip)
     |with_reducible first|apply aiA|intro _
    all_goals try exact clz
    refine hK _ _ (i+1) ⟨hi,i3 (by rw [hB,decide_eq_false g1,decide_eq_false g2];rfl)⟩ (by omega) (Wk.temps ?_)
    (simp only [strs,qE,go_sem,qk,qh,qg,qj];try (repeat' first|(with_reducible apply aiA)|(apply qe;omega)|(apply qa;rfl)|exact ql))
 have k2:((i:Int)<gs.length)=False:=eq_false (by omega)
 rw [qp.2 (fun j hj=>i2 j (by omega)),Bool.false_or]at hR
 have n1:((8:Int)<names.length)=(8<names.length):=propext (by omega)
 have n2:((names.length:Int)≤32)=(names.length≤32):=propext (by omega)
 have n3:((34:Int)<names.length)=(34<names.length):=propext (by omega)
 have n4:((5:Int)<gs.length)=(5<gs.length):=propext (by omega)
 have n5:((gs.length:Int)≤16)=(gs.length≤16):=propext (by omega)
 have n6:((18:Int)<gs.length)=(18<gs.length):=propext (by omega)
 obtain ⟨q1,h1⟩: ∃q,q=decide (8<names.length):=⟨_,rfl⟩
 obtain ⟨q2,h2⟩: ∃q,q=decide (names.length≤32):=⟨_,rfl⟩
 obtain ⟨q3,h3⟩: ∃q,q=decide (34<names.length):=⟨_,rfl⟩
 obtain ⟨q4,h4⟩: ∃q,q=decide (5<gs.length):=⟨_,rfl⟩
 obtain ⟨q5,h5⟩: ∃q,q=decide (gs.length≤16):=⟨_,rfl⟩
 obtain ⟨q6,h6⟩: ∃q,q=decide (18<gs.length):=⟨_,rfl⟩
 have e1:=h1.symm
 have e2:=h2.symm
 have e3:=h3.symm
 have e4:=h4.symm
 have e5:=h5.symm
 have e6:=h6.symm
 rw [e1,e2,e3,e4,e5,e6]at hR
 have b1:(q1=true∧q2=true)∨(q1=false∧q2=true)∨(q1=true∧q2=false)∨(q1=false∧q2=false):=by cases q1<;>cases q2<;>simp
 have b4:(q4=true∧q5=true)∨(q4=false∧q5=true)∨(q4=true∧q5=false)∨(q4=false∧q5=false):=by cases q4<;>cases q5<;>simp
 clear h1 h2 h3 h4 h5 h6
 rcases b1 with ⟨rfl,rfl⟩|⟨rfl,rfl⟩|⟨rfl,rfl⟩|⟨rfl,rfl⟩
 ·skip
  simp only [Bool.true_and,Bool.false_and,Bool.true_or,Bool.false_or]at hR
  rw [hR]
  simp (disch:=omega) only [strs,qE,k2,n1,n2,n3,n4,n5,n6,e1,e2,e3,e4,e5,e6,go_sem]
  repeat' first
   |((first|apply qd|apply qb);exact rvk;simp only [go_sem];first|exact ql|apply qe|apply qa|apply qf|skip)
   |with_reducible first|apply aiA|intro _
  all_goals try exact clz
 ·skip
  cases q3 with
  |true=>
   simp only [Bool.true_and,Bool.false_and,Bool.true_or,Bool.false_or]at hR
   rw [hR]
   simp (disch:=omega) only [strs,qE,k2,n1,n2,n3,n4,n5,n6,e1,e2,e3,e4,e5,e6,go_sem]
   repeat' first
    |((first|apply qd|apply qb);exact rvk;simp only [go_sem];first|exact ql|apply qe|apply qa|apply qf|skip)
    |with_reducible first|apply aiA|intro _
   all_goals try exact clz
  |false=>
   rcases b4 with ⟨rfl,rfl⟩|⟨rfl,rfl⟩|⟨rfl,rfl⟩|⟨rfl,rfl⟩
   ·skip
    simp only [Bool.true_and,Bool.false_and,Bool.true_or,Bool.false_or]at hR
    rw [hR]
    simp (disch:=omega) only [strs,qE,k2,n1,n2,n3,n4,n5,n6,e1,e2,e3,e4,e5,e6,go_sem]
    repeat' first
     |((first|apply qd|apply qb);exact rvk;simp only [go_sem];first|exact ql|apply qe|apply qa|apply qf|skip)
     |with_reducible first|apply aiA|intro _
    all_goals try exact clz
   ·skip
    cases q6 with
    |true=>
     simp only [Bool.true_and,Bool.false_and,Bool.true_or,Bool.false_or]at hR
     rw [hR]
     simp (disch:=omega) only [strs,qE,k2,n1,n2,n3,n4,n5,n6,e1,e2,e3,e4,e5,e6,go_sem]
     repeat' first
      |((first|apply qd|apply qb);exact rvk;simp only [go_sem];first|exact ql|apply qe|apply qa|apply qf|skip)
      |with_reducible first|apply aiA|intro _
     all_goals try exact clz
    |false=>
     simp only [Bool.true_and,Bool.false_and,Bool.true_or,Bool.false_or]at hR
     rw [hR]
     simp (disch:=omega) only [strs,qE,k2,n1,n2,n3,n4,n5,n6,e1,e2,e3,e4,e5,e6,go_sem]
     repeat' first
      |((first|apply qd|apply qb);exact rvk;simp only [go_sem];first|exact ql|apply qe|apply qa|apply qf|skip)
      |with_reducible first|apply aiA|intro _
     all_goals try exact clz
   ·skip
    cases q6 with
    |true=>
     simp only [Bool.true_and,Bool.false_and,Bool.true_or,Bool.false_or]at hR
     rw [hR]
     simp (disch:=omega) only [strs,qE,k2,n1,n2,n3,n4,n5,n6,e1,e2,e3,e4,e5,e6,go_sem]
     repeat' first
      |((first|apply qd|apply qb);exact rvk;simp only [go_sem];first|exact ql|apply qe|apply qa|apply qf|skip)
      |with_reducible first|apply aiA|intro _
     all_goals try exact clz
    |false=>
     simp only [Bool.true_and,Bool.false_and,Bool.true_or,Bool.false_or]at hR
     rw [hR]
     simp (disch:=omega) only [strs,qE,k2,n1,n2,n3,n4,n5,n6,e1,e2,e3,e4,e5,e6,go_sem]
     repeat' first
      |((first|apply qd|apply qb);exact rvk;simp only [go_sem];first|exact ql|apply qe|apply qa|apply qf|skip)
      |with_reducible first|apply aiA|intro _
     all_goals try exact clz
   ·skip
    cases q6 with
    |true=>
     simp only [Bool.true_and,Bool.false_and,Bool.true_or,Bool.false_or]at hR
     rw [hR]
     simp (disch:=omega) only [strs,qE,k2,n1,n2,n3,n4,n5,n6,e1,e2,e3,e4,e5,e6,go_sem]
     repeat' first
      |((first|apply qd|apply qb);exact rvk;simp only [go_sem];first|exact ql|apply qe|apply qa|apply qf|skip)
      |with_reducible first|apply aiA|intro _
     all_goals try exact clz
    |false=>
     simp only [Bool.true_and,Bool.false_and,Bool.true_or,Bool.false_or]at hR
     rw [hR]
     simp (disch:=omega) only [strs,qE,k2,n1,n2,n3,n4,n5,n6,e1,e2,e3,e4,e5,e6,go_sem]
     repeat' first
      |((first|apply qd|apply qb);exact rvk;simp only [go_sem];first|exact ql|apply qe|apply qa|apply qf|skip)
      |with_reducible first|apply aiA|intro _
     all_goals try exact clz
 ·skip
  cases q3 with
  |true=>
   simp only [Bool.true_and,Bool.false_and,Bool.true_or,Bool.false_or]at hR
   rw [hR]
   simp (disch:=omega) only [strs,qE,k2,n1,n2,n3,n4,n5,n6,e1,e2,e3,e4,e5,e6,go_sem]
   repeat' first
    |((first|apply qd|apply qb);exact rvk;simp only [go_sem];first|exact ql|apply qe|apply qa|apply qf|skip)
    |with_reducible first|apply aiA|intro _
   all_goals try exact clz
  |false=>
   rcases b4 with ⟨rfl,rfl⟩|⟨rfl,rfl⟩|⟨rfl,rfl⟩|⟨rfl,rfl⟩
   ·skip
    simp only [Bool.true_and,Bool.false_and,Bool.true_or,Bool.false_or]at hR
    rw [hR]
    simp (disch:=omega) only [strs,qE,k2,n1,n2,n3,n4,n5,n6,e1,e2,e3,e4,e5,e6,go_sem]
    repeat' first
     |((first|apply qd|apply qb);exact rvk;simp only [go_sem];first|exact ql|apply qe|apply qa|apply qf|skip)
     |with_reducible first|apply aiA|intro _
    all_goals try exact clz
   ·skip
    cases q6 with
    |true=>
     simp only [Bool.true_and,Bool.false_and,Bool.true_or,Bool.false_or]at hR
     rw [hR]
     simp (disch:=omega) only [strs,qE,k2,n1,n2,n3,n4,n5,n6,e1,e2,e3,e4,e5,e6,go_sem]
     repeat' first
      |((first|apply qd|apply qb);exact rvk;simp only [go_sem];first|exact ql|apply qe|apply qa|apply qf|skip)
      |with_reducible first|apply aiA|intro _
     all_goals try exact clz
    |false=>
     simp only [Bool.true_and,Bool.false_and,Bool.true_or,Bool.false_or]at hR
     rw [hR]
     simp (disch:=omega) only [strs,qE,k2,n1,n2,n3,n4,n5,n6,e1,e2,e3,e4,e5,e6,go_sem]
     repeat' first
      |((first|apply qd|apply qb);exact rvk;simp only [go_sem];first|exact ql|apply qe|apply qa|apply qf|skip)
      |with_reducible first|apply aiA|intro _
     all_goals try exact clz
   ·skip
    cases q6 with
    |true=>
     simp only [Bool.true_and,Bool.false_and,Bool.true_or,Bool.false_or]at hR
     rw [hR]
     simp (disch:=omega) only [strs,qE,k2,n1,n2,n3,n4,n5,n6,e1,e2,e3,e4,e5,e6,go_sem]
     repeat' first
      |((first|apply qd|apply qb);exact rvk;simp only [go_sem];first|exact ql|apply qe|apply qa|apply qf|skip)
      |with_reducible first|apply aiA|intro _
     all_goals try exact clz
    |false=>
     simp only [Bool.true_and,Bool.false_and,Bool.true_or,Bool.false_or]at hR
     rw [hR]
     simp (disch:=omega) only [strs,qE,k2,n1,n2,n3,n4,n5,n6,e1,e2,e3,e4,e5,e6,go_sem]
     repeat' first
      |((first|apply qd|apply qb);exact rvk;simp only [go_sem];first|exact ql|apply qe|apply qa|apply qf|skip)
      |with_reducible first|apply aiA|intro _
     all_goals try exact clz
   ·skip
    cases q6 with
    |true=>
     simp only [Bool.true_and,Bool.false_and,Bool.true_or,Bool.false_or]at hR
     rw [hR]
     simp (disch:=omega) only [strs,qE,k2,n1,n2,n3,n4,n5,n6,e1,e2,e3,e4,e5,e6,go_sem]
     repeat' first
      |((first|apply qd|apply qb);exact rvk;simp only [go_sem];first|exact ql|apply qe|apply qa|apply qf|skip)
      |with_reducible first|apply aiA|intro _
     all_goals try exact clz
    |false=>
     simp only [Bool.true_and,Bool.false_and,Bool.true_or,Bool.false_or]at hR
     rw [hR]
     simp (disch:=omega) only [strs,qE,k2,n1,n2,n3,n4,n5,n6,e1,e2,e3,e4,e5,e6,go_sem]
     repeat' first
      |((first|apply qd|apply qb);exact rvk;simp only [go_sem];first|exact ql|apply qe|apply qa|apply qf|skip)
      |with_reducible first|apply aiA|intro _
     all_goals try exact clz
 ·skip
  cases q3 with
  |true=>
   simp only [Bool.true_and,Bool.false_and,Bool.true_or,Bool.false_or]at hR
   rw [hR]
   simp (disch:=omega) only [strs,qE,k2,n1,n2,n3,n4,n5,n6,e1,e2,e3,e4,e5,e6,go_sem]
   repeat' first
    |((first|apply qd|apply qb);exact rvk;simp only [go_sem];first|exact ql|apply qe|apply qa|apply qf|skip)
    |with_reducible first|apply aiA|intro _
   all_goals try exact clz
  |false=>
   rcases b4 with ⟨rfl,rfl⟩|⟨rfl,rfl⟩|⟨rfl,rfl⟩|⟨rfl,rfl⟩
   ·skip
    simp only [Bool.true_and,Bool.false_and,Bool.true_or,Bool.false_or]at hR
    rw [hR]
    simp (disch:=omega) only [strs,qE,k2,n1,n2,n3,n4,n5,n6,e1,e2,e3,e4,e5,e6,go_sem]
    repeat' first
     |((first|apply qd|apply qb);exact rvk;simp only [go_sem];first|exact ql|apply qe|apply qa|apply qf|skip)
     |with_reducible first|apply aiA|intro _
    all_goals try exact clz
   ·skip
    cases q6 with
    |true=>
     simp only [Bool.true_and,Bool.false_and,Bool.true_or,Bool.false_or]at hR
     rw [hR]
     simp (disch:=omega) only [strs,qE,k2,n1,n2,n3,n4,n5,n6,e1,e2,e3,e4,e5,e6,go_sem]
     repeat' first
      |((first|apply qd|apply qb);exact rvk;simp only [go_sem];first|exact ql|apply qe|apply qa|apply qf|skip)
      |with_reducible first|apply aiA|intro _
     all_goals try exact clz
    |false=>
     simp only [Bool.true_and,Bool.false_and,Bool.true_or,Bool.false_or]at hR
     rw [hR]
     simp (disch:=omega) only [strs,qE,k2,n1,n2,n3,n4,n5,n6,e1,e2,e3,e4,e5,e6,go_sem]
     repeat' first
      |((first|apply qd|apply qb);exact rvk;simp only [go_sem];first|exact ql|apply qe|apply qa|apply qf|skip)
      |with_reducible first|apply aiA|intro _
     all_goals try exact clz
   ·skip
    cases q6 with
    |true=>
     simp only [Bool.true_and,Bool.false_and,Bool.true_or,Bool.false_or]at hR
     rw [hR]
     simp (disch:=omega) only [strs,qE,k2,n1,n2,n3,n4,n5,n6,e1,e2,e3,e4,e5,e6,go_sem]
     repeat' first
      |((first|apply qd|apply qb);exact rvk;simp only [go_sem];first|exact ql|apply qe|apply qa|apply qf|skip)
      |with_reducible first|apply aiA|intro _
     all_goals try exact clz
    |false=>
     simp only [Bool.true_and,Bool.false_and,Bool.true_or,Bool.false_or]at hR
     rw [hR]
     simp (disch:=omega) only [strs,qE,k2,n1,n2,n3,n4,n5,n6,e1,e2,e3,e4,e5,e6,go_sem]
     repeat' first
      |((first|apply qd|apply qb);exact rvk;simp only [go_sem];first|exact ql|apply qe|apply qa|apply qf|skip)
      |with_reducible first|apply aiA|intro _
     all_goals try exact clz
   ·skip
    cases q6 with
    |true=>
     simp only [Bool.true_and,Bool.false_and,Bool.true_or,Bool.false_or]at hR
     rw [hR]
     simp (disch:=omega) only [strs,qE,k2,n1,n2,n3,n4,n5,n6,e1,e2,e3,e4,e5,e6,go_sem]
     repeat' first
      |((first|apply qd|apply qb);exact rvk;simp only [go_sem];first|exact ql|apply qe|apply qa|apply qf|skip)
      |with_reducible first|apply aiA|intro _
     all_goals try exact clz
    |false=>
     simp only [Bool.true_and,Bool.false_and,Bool.true_or,Bool.false_or]at hR
     rw [hR]
     simp (disch:=omega) only [strs,qE,k2,n1,n2,n3,n4,n5,n6,e1,e2,e3,e4,e5,e6,go_sem]
     repeat' first
      |((first|apply qd|apply qb);exact rvk;simp only [go_sem];first|exact ql|apply qe|apply qa|apply qf|skip)
      |with_reducible first|apply aiA|intro _
     all_goals try exact clz
theorem qrQ {ws:List Str} {n:Nat} (h:gwB ws n=false):ws.length≤n∧ ∀i,(ws.getD i []).length≤20:=by
 unfold gwB at h
 rw [Bool.or_eq_false_iff,decide_eq_false_iff_not,qp]at h
 refine ⟨by omega,fun i=> ?_⟩
 by_cases hi:i<ws.length
 ·have:=of_decide_eq_false (h.1 i hi)
  omega
 ·rw [gdqA,List.getElem?_eq_none (by omega)]
  exact Nat.zero_le _
theorem qtS {names:List Str} {gs:List Gr} (h:qlB names gs=false):names.length≤34∧gs.length≤18∧(∀i,(names.getD i []).length≤20)∧ ∀i,(gs.getD i default).name.length≤20∧(gs.getD i default).mem.length≤40:=by
 unfold qlB at h
 simp only [Bool.or_eq_false_iff,decide_eq_false_iff_not,qp]at h
 obtain ⟨h1,h2,⟨⟨_,h3⟩,_⟩,h4⟩:=h
 refine ⟨by omega,by omega,fun i=> ?_,fun i=> ?_⟩
 ·by_cases hi:i<names.length
  ·have:=h1 i hi
   omega
  ·rw [gdqA,List.getElem?_eq_none (by omega)]
   exact Nat.zero_le _
 ·by_cases hi:i<gs.length
  ·have:=h2 i hi
   unfold grB at this
   simp only [Bool.or_eq_false_iff,decide_eq_false_iff_not]at this
   omega
  ·rw [gdqA,List.getElem?_eq_none (by omega)]
   exact ⟨Nat.zero_le _,Nat.zero_le _⟩
end RC
end
section
open Go Go.Proofs AF HY LN
namespace AF
theorem qaL {v:Nat} {ty:TypeId} {cs:List AV} {n:Nat} (h: ∀c∈cs,lowV n c=true):lowO n (zZ v ty cs):=by
 unfold zZ
 split
 ·trivial
 ·exact h
end AF
namespace RC
theorem qiM (L:List Str):(strs L).solid=true:=rfl
theorem qhX (L:List Str):(strs L).cells= [strs L]:=rfl
theorem qfP {k v z p n:Nat} (L:List Str):qcE (.osl k v z p n) (strs L)=true:=rfl
attribute [go_sem] qiM qhX qfP
theorem qcA {v:Nat} {L:List Str} {g:AV→AV} {n:Nat} (hg: ∀s,g (.str s)= .str s) (hn:n=L.length):VLe (qeE (some (zZ v 9 (jv L))) v 1 0 n g) (strs L):=by
 subst hn
 by_cases h:L= []
 ·subst h
  show VLe (qeE (some (.emp v)) v 1 0 0 g) _
  rw [slOf_emp,if_pos rfl]
  exact kM
 ·have e0:zZ v 9 (jv L)= .mem v 9 (jv L):=jJ (fun e=>h (qqK.1 e))
  rw [e0,slOf_mem,if_pos ⟨rfl,by rw [jT];omega⟩]
  simp only [Nat.zero_add,Nat.mul_one]
  exact qqM g hg rfl
end RC
end
section
open Go Go.Proofs AF HY LN
namespace AF
theorem Wk.fzCell {t:List AV} {h:List AObj} {j k i v:Nat} {ty:TypeId} {cs:List AV} {c c':AV} (hj:qF j h=some (.mem v ty cs)) (hi:cs[i]? =some c) (hs:qI h k=true) (hne:j≠k) (hc:VLe (frz (fun b=> [k].contains b) h 8 c) c'):
  Wk t h t (setO j (setO k h (.emp (qu (qF k h)+1))) (.mem v ty (cs.set i c'))):=by
 intro N w σ a H
 have hs':qag [k] h=true:=by simp [qag,hs]
 obtain ⟨σ',g1,g2,g3,g4⟩:=qc0 [k] H.hr hs'
 have hn:j∉ [k]:=by simp [hne]
 have frzv: ∀c x,VR w σ c x→VR w σ' (frz (fun b=> [k].contains b) h 8 c) x:=fun c x hx=>
  qha H.hr (fun b hb=>(g4 b hb).elim fun j ⟨o,h1,h2,h3⟩=>⟨j,o,by simpa using h1,h2,h3⟩) (fun j o hj ho=>g3 j o (by simpa using hj) ho) 8 hx
 have hjl:j<σ.length:=by rw [H.hr.len];exact jg hj
 have ho:=qZ hjl
 obtain ⟨m1,m2,b,arr,m3,m4,m5,m6,m7,m8⟩:=H.hr.obj j _ _ hj ho
 have q:=g1.recell (cs':=cs.set i c') ((qpC hn).trans hj) (g3 j _ hn ho) m3 m4 m5 (by simpa using m6) (fun n x hn hx=>m7 n x (by simpa using hn) hx) (fun n d x hd hx=>by
  rw [List.getElem?_set]at hd
  split at hd
  ·rename_i e
   subst e
   split at hd
   ·cases hd;exact hc _ _ _ (frzv _ x (m8 i _ x hi hx))
   ·cases hd
  ·exact (m8 n d x hd hx).ext g2)
 exact ⟨σ',⟨q,H.sz,fun n d x hd hx=>(H.tm n d x hd hx).ext g2,qaV g2 H.df⟩,g2⟩
theorem qct {h:List AObj} {k ve sz off n:Nat}:frz (fun b=> [k].contains b) h 8 (.osl k ve sz off n)=qeE (qF k h) ve sz off n (rei (fun b=> [k].contains b) h 7):=by
 rw [frz_osl,if_pos (by simp),rei_osl,if_pos (by simp)]
end AF
namespace RC
theorem qiK (L:List Gr):(qE L).solid=true:=rfl
theorem qhV (L:List Gr):(qE L).cells= [qE L]:=rfl
theorem qiJ (L:List En):(qan L).solid=true:=rfl
theorem qhU (L:List En):(qan L).cells= [qan L]:=rfl
theorem qnb (names:List Str) (gs:List Gr) (e:En):(stV names gs e).solid=true:=rfl
theorem qkM (names:List Str) (gs:List Gr) (e:En):(stV names gs e).cells= [stV names gs e]:=rfl
theorem qm9 (names:List Str) (gs:List Gr) (L:List En):(msV names gs L).solid=true:=rfl
theorem qkK (names:List Str) (gs:List Gr) (L:List En):(msV names gs L).cells= [msV names gs L]:=rfl
theorem qgm (L:List Int):(qo L).solid=true:=rfl
theorem qfW (L:List Int):(qo L).cells= [qo L]:=rfl
attribute [go_sem] qiK qhV qiJ qhU qnb qkM qm9 qkK qgm qfW
theorem qqy {v n:Nat} {ty:TypeId} {L:List En} {fz:Nat→Bool} {h:List AObj} {d:Nat} (hn:n=L.length):VLe (qeE (some (.mem v ty (qbC L))) v 6 0 n (rei fz h (d+1))) (qan L):=by
 subst hn
 rw [slOf_mem,if_pos ⟨rfl,by rw [qgZ];omega⟩]
 refine VLe.sl_eq rfl (fun i hi=> ?_)
 simp only [Nat.zero_add]
 rw [qo4 hi]
 rfl
end RC
end
section
open Go Go.Proofs AF HY LN
namespace RC
section
variable (names : List Str) (gs : List Gr) (t : List Str) (l : List En) (src : Int) (h : List AObj)
theorem qbx {v n:Nat} {L:List Int} {g:AV→AV} (hg: ∀s,g (.int .i64 s)= .int .i64 s) (hn:n=L.length):VLe (qeE (some (zZ v 3 (qH L))) v 1 0 n g) (qo L):=by
 subst hn
 by_cases h:L= []
 ·subst h
  show VLe (qeE (some (.emp v)) v 1 0 0 g) _
  rw [slOf_emp,if_pos rfl]
  exact kM
 ·have e0:zZ v 3 (qH L)= .mem v 3 (qH L):=jJ (fun e=>h (qe5.1 e))
  rw [e0,slOf_mem,if_pos ⟨rfl,by rw [zk];omega⟩]
  simp only [Nat.zero_add,Nat.mul_one]
  exact qe6 g hg rfl
end
section
variable (names : List Str) (gs : List Gr) (t : List Str) (l : List En) (src : Int) (h : List AObj)
end
end RC
end
section
open Go Go.Proofs AF HY LN
namespace RC
end RC
namespace RC
end RC
end
section
open Go Go.Proofs AF HY LN
namespace AF
structure qvM (E:AV) (n:Nat) (cs:List AV):Prop where
 fl:E.flag=true
 st:E.strip=E
 vl: ∀g,valL g .len [E]= .int .i64 n
 ok: ∀g,okL g .len [E]=True
 sc: ∀g,qw g E=some (n,cs)
 ap: ∀k v z p m,qcE (.osl k v z p m) E=true
theorem qvM.sl (n:Nat) (f:Nat→List AV):qvM (.sl n f) n ((List.range n).flatMap f):=⟨rfl,rfl,fun _=>rfl,fun _=>eq_true trivial,fun _=>rfl,fun _ _ _ _ _=>rfl⟩
theorem qDt {P:Program} {f:FuncId} {args:List AV} {h h':List AObj} {r:AV} (ks:List Nat) (hs:qag ks h=true) (hc:ACalls P f (args.map (frz (fun k=>ks.contains k) h 8)) (qd9 ks h) r h'):ACalls P f args h r h':=by
 refine ⟨hc.1,fun w σ xs H hv=> ?_⟩
 obtain ⟨σ',g1,g2,g3,g4⟩:=qc0 ks H hs
 refine (hc.2 w σ' xs g1 ⟨by rw [hv.1];simp,fun i c x hcc hx=> ?_⟩).mono ?_
 ·rw [List.getElem?_map,Option.map_eq_some_iff]at hcc
  obtain ⟨c0,hcc,rfl⟩:=hcc
  exact qha H (fun b hb=>(g4 b hb).elim fun j ⟨o,h1,h2,h3⟩=>⟨j,o,by simpa using h1,h2,h3⟩) (fun j o hj ho=>g3 j o (by simpa using hj) ho) 8 (hv.2 i c0 x hcc hx)
 ·rintro e w' ⟨v,σ2,rfl,k1,k2,k3⟩
  exact ⟨v,σ2,rfl,k1,k2,g2.trans k3⟩
end AF
namespace RC
theorem qvM.strs (L:List Str):qvM (strs L) L.length (jv L):=⟨rfl,rfl,fun _=>rfl,fun _=>eq_true trivial,fun g=>qqJ g L,fun _ _ _ _ _=>rfl⟩
theorem qvM.sub {t:List Str} {a b:Nat} (h1:a≤b) (h2:b≤t.length):qvM (.sl (b-a) fun i=> [.str (t.getD (a+i) [])]) (qco t a b).length (jv (qco t a b)):=by
 rw [qeu h1 h2]
 exact ⟨rfl,rfl,fun _=>rfl,fun _=>eq_true trivial,fun g=>qnk g h1 h2,fun _ _ _ _ _=>rfl⟩
end RC
end
section
open Go Go.Proofs AF HY LN
namespace RC
def anN (a b:Nat):Nat:=a&&&(2^64-1-b)
theorem qrk (a b:Nat):anN a b≤a:=Nat.and_le_left
theorem qgP {a b:Nat} (ha:a<2^64) (hb:b<2^64):qfO .u64 (a:Int) (b:Int)=((anN a b:Nat):Int):=by
 have hab:=qrk a b
 unfold qfO
 rw [show IntKind.bits IntKind.u64=64 from rfl,kS,kS,BitVec.toNat_and,BitVec.toNat_not,BitVec.toNat_ofNat,BitVec.toNat_ofNat,Nat.mod_eq_of_lt ha,Nat.mod_eq_of_lt hb]
 exact qbA (Int.natCast_nonneg _) (by unfold anN at hab;omega)
theorem qdU {a b:Nat} (ha:a<2^64) (hb:b<2^64) (i:Nat):(anN a b).testBit i=(a.testBit i&& !b.testBit i):=by
 unfold anN
 rw [Nat.testBit_and,show 2^64-1-b=2^64-(b+1) by omega,Nat.testBit_two_pow_sub_succ hb]
 by_cases hi:i<64
 ·simp [hi]
 ·rw [Nat.testBit_lt_two_pow (Nat.lt_of_lt_of_le ha (Nat.pow_le_pow_right (by omega) (by omega)))]
  rfl
def qoc (n:Nat):Nat:=(jl n.testBit 64).length
theorem qCJ (n:Nat) (h:List AObj) (hn:n<256):ACalls Tryz.prog 199 [.int .u64 (n:Int)] h (.int .i64 (qoc n)) h:=by
 refine acO qx5 ?_
 simp (disch:=omega) only [qwy,go_sem]
 repeat' first
  |((first|apply qd|apply qb);exact rvk;simp only [go_sem];first|exact ql|apply qe|apply qa|apply qf|skip)
  |with_reducible first|apply aiA|intro _
 all_goals try exact clz
 clear h
 revert n
 decide+kernel
def qgw (names:List Str) (gs:List Gr) (set:List Int):Int:=if sgE names gs=0 then qep names.length set else 1
theorem qDV (names:List Str) (gs:List Gr) (set:List Int) (h:List AObj) (hz:Szs names gs) (hs:set.length≤1000000000):ACalls Tryz.prog 196 [strs names,qE gs,qo set] h (.int .i64 (qgw names gs set)) h:=by
 have c59:=fun h=>sgP names gs h hz
 have c92:=fun h=>qCL set names.length h hs
 have zl: ∀g,valL g .len [strs names]= .int .i64 names.length:=fun _=>rfl
 have zo: ∀g,okL g .len [strs names]=True:=fun _=>eq_true trivial
 unfold qgw
 by_cases g:sgE names gs=0
 ·rw [if_pos g]
  simp only [g]at c59
  refine acO qrB ?_
  simp (disch:=omega) only [qsD,zl,zo,go_sem]
  repeat' first
   |((first|refine cA (c59 _) ?_ ?_|refine cG (fun e=>c59 _) ?_ ?_|refine cA (c92 _) ?_ ?_|refine cG (fun e=>c92 _) ?_ ?_|refine cU (fun _=>c59 _) ?_ ?_|refine cU (fun _=>c92 _) ?_ ?_);exact flk;simp (disch:=omega) only [zl,zo,go_sem])
   |((first|apply qd|apply qb);exact rvk;simp only [go_sem];first|exact ql|apply qe|apply qa|apply qf|skip)
   |with_reducible first|apply aiA|intro _
  all_goals try exact clz
 ·rw [if_neg g]
  have k:(sgE names gs=0)=False:=eq_false g
  refine acO qrB ?_
  simp (disch:=omega) only [qsD,zl,zo,k,go_sem]
  repeat' first
   |((first|refine cA (c59 _) ?_ ?_|refine cG (fun e=>c59 _) ?_ ?_|refine cA (c92 _) ?_ ?_|refine cG (fun e=>c92 _) ?_ ?_|refine cU (fun _=>c59 _) ?_ ?_|refine cU (fun _=>c92 _) ?_ ?_);exact flk;simp (disch:=omega) only [zl,zo,k,go_sem])
   |((first|apply qd|apply qb);exact rvk;simp only [go_sem];first|exact ql|apply qe|apply qa|apply qf|skip)
   |with_reducible first|apply aiA|intro _
  all_goals try exact clz
theorem qlG {names:List Str} {gs:List Gr} (h:sgE names gs=0) (i:Nat):inB 64 (gs.getD i default).mem:=by
 have h:=qck h
 by_cases hi:i<gs.length
 ·intro j hj
  have:=(qaE (qf7 h hi)).1 j hj
  have:=h.n32
  omega
 ·rw [gdqA,List.getElem?_eq_none (by omega)]
  intro j hj
  exact absurd hj (by simp [show (default:Gr).mem= []from rfl])
def qjl (gs:List Gr) (all:Nat) (i:Nat):Bool:=decide (anN (jD (gs.getD i default).mem) all=0)
def qaj (gs:List Gr) (all:Nat):List Int:=jl (qjl gs all) gs.length
theorem qD9 (gs:List Gr) (all:Nat) (h:List AObj) (hg:gs.length≤1000000) (hm: ∀i,inB 64 (gs.getD i default).mem) (hl: ∀i,(gs.getD i default).mem.length≤1000000000) (ha:all<2^64):ACalls Tryz.prog 197 [qE gs,.int .u64 (all:Int)] h (qo (qaj gs all)) h:=by
 unfold qaj
 have zl: ∀g,valL g .len [qE gs]= .int .i64 gs.length:=fun _=>rfl
 have zo: ∀g,okL g .len [qE gs]=True:=fun _=>eq_true trivial
 refine acO qx3 ?_
 simp (disch:=omega) only [qww,zl,zo,go_sem]
 repeat' first
  |((first|apply qd|apply qb);exact rvk;simp only [go_sem];first|exact ql|apply qe|apply qa|apply qf|skip)
  |with_reducible first|apply aiA|intro _
 all_goals try exact clz
 refine qt (T:=fun i:Nat×Nat×AObj×AObj=>qT 27 [(1,.int .u64 (all:Int)),(5,.osl (h.length+1) i.2.1 1 0 (jl (qjl gs all) i.1).length),(8,qE gs),(9,.int .i64 gs.length),(10,.int .i64 i.1)])
  (H:=fun i=>h++ [.emp 1,zZ i.2.1 3 (qH (jl (qjl gs all) i.1)),i.2.2.1,i.2.2.2,.emp 0])
  (inv:=fun i=>i.1≤gs.length∧qI [i.2.2.1] 0=true∧qI [i.2.2.2] 0=true) (m:=fun i=>gs.length-i.1) (0,1,.emp 0,.emp 0) ⟨Nat.zero_le _,rfl,rfl⟩ (Wk.temps ?_) ?_
 ·(simp only [jl,List.range_zero,List.filter_nil,List.length_nil,go_sem,qk,qh,qg,qj];try (repeat' first|(with_reducible apply aiA)|(apply qe;omega)|(apply qa;rfl)|exact ql))
 rintro ⟨i,v,O2,O3⟩ ⟨i1,i2,i3⟩ K hK
 simp only at i1 i2 i3 hK
 have i2': ∀m,qI (O2::m) 0=true:=fun _=>i2
 have i3': ∀m,qI (O3::m) 0=true:=fun _=>i3
 have hst:=qc1 (qjl gs all) i
 have hln:=zL (qjl gs all) i
 obtain ⟨L,hL⟩: ∃L,L=jl (qjl gs all) i:=⟨_,rfl⟩
 rw [←hL]at hst hln
 have eL:=hL.symm
 have eC:=zk L
 by_cases hi:i<gs.length
 ·have k1:((i:Int)<gs.length)=True:=eq_true (by omega)
  have c96:=fun h=>qAB (gs.getD i default).mem h (hl i) (hm i)
  have hlt:=qcb (hm i)
  have hB:qjl gs all i=decide (anN (jD (gs.getD i default).mem) all=0):=rfl
  obtain ⟨gr,hgr⟩: ∃gr,gr=gs.getD i default:=⟨_,rfl⟩
  have egr:=hgr.symm
  simp only [egr]at c96 hB
  rw [egr]at hlt
  have hd:=qgP hlt ha
  obtain ⟨q,hq⟩: ∃q,q=anN (jD gr.mem) all:=⟨_,rfl⟩
  rw [←hq]at hd hB
  have eTk:List.take L.length (qH L)=qH L:=List.take_of_length_le (by omega)
  by_cases g0:q=0
  ·have k2:((q:Int)=0)=True:=eq_true (by omega)
   rw [if_pos (by rw [hB];exact decide_eq_true g0)]at hst
   simp (disch:=omega) only [qE,grC,k1,i2',i3',eL,egr,Nat.mul_one,go_sem]
   repeat' first
    |((first|refine cA (c96 _) ?_ ?_|refine cG (fun e=>c96 _) ?_ ?_|refine cU (fun _=>c96 _) ?_ ?_);exact flk;simp (disch:=omega) only [qE,grC,k1,k2,i2',i3',eL,egr,hd,eC,eTk,Nat.mul_one,go_sem])
    |((first|apply qd|apply qb);exact rvk;simp only [go_sem];first|exact ql|apply qe|apply qa|apply qf|skip)
    |with_reducible first|apply aiA|intro _
   all_goals try exact clz
   have eA:qH L++ [AV.int .i64 (i:Int)]=qH (jl (qjl gs all) (i+1)):=by rw [hst,jB];rfl
   rw [eA]
   refine hK _ _ (i+1,v+1,.mem (qu (some O2)+1) 167 (grC gr),.mem (qu (some O3)+1) 3 [.int .i64 (i:Int)]) ⟨hi,rfl,rfl⟩ (by simp only;omega) ?_
   simp only [hst,List.length_append,List.length_cons,List.length_nil]
   refine Wk.temps ?_
   (simp only [go_sem,qk,qh,qg,qj];try (repeat' first|(with_reducible apply aiA)|(apply qe;omega)|(apply qa;rfl)|exact ql))
  ·have k2:((q:Int)=0)=False:=eq_false (by omega)
   rw [if_neg (by rw [hB];simpa using g0),List.append_nil]at hst
   simp (disch:=omega) only [qE,grC,k1,i2',eL,egr,go_sem]
   repeat' first
    |((first|refine cA (c96 _) ?_ ?_|refine cG (fun e=>c96 _) ?_ ?_|refine cU (fun _=>c96 _) ?_ ?_);exact flk;simp (disch:=omega) only [qE,grC,k1,k2,i2',eL,egr,hd,go_sem])
    |((first|apply qd|apply qb);exact rvk;simp only [go_sem];first|exact ql|apply qe|apply qa|apply qf|skip)
    |with_reducible first|apply aiA|intro _
   all_goals try exact clz
   refine hK _ _ (i+1,v,.mem (qu (some O2)+1) 167 (grC gr),O3) ⟨hi,rfl,i3⟩ (by simp only;omega) ?_
   simp only [hst]
   refine Wk.temps ?_
   (simp only [go_sem,qk,qh,qg,qj];try (repeat' first|(with_reducible apply aiA)|(apply qe;omega)|(apply qa;rfl)|exact ql))
 ·obtain rfl:i=gs.length:=by omega
  have k1:((gs.length:Int)<gs.length)=False:=eq_false (by omega)
  rw [eL]
  simp (disch:=omega) only [k1,eL,go_sem]
  repeat' first
   |((first|apply qd|apply qb);exact rvk;simp only [go_sem];first|exact ql|apply qe|apply qa|apply qf|skip)
   |with_reducible first|apply aiA|intro _
  all_goals try exact clz
  exact qbx (fun _=>rfl) rfl
def qrp (a b:List Int):Int:=qbk (fun i=>qro (a.getD i 0) (b.getD i 0)) 0 a.length
theorem qDd (a b:List Int) (h:List AObj) (hl:a.length=b.length) (ha:a.length≤1000000000):ACalls Tryz.prog 66 [qo a,qo b] h (.int .i64 (qrp a b)) h:=by
 obtain ⟨R,hR⟩: ∃R,R=qrp a b:=⟨_,rfl⟩
 rw [←hR]
 unfold qrp at hR
 have z1: ∀g,valL g .len [qo a]= .int .i64 a.length:=fun _=>rfl
 have z2: ∀g,okL g .len [qo a]=True:=fun _=>eq_true trivial
 have z3: ∀g,valL g .len [qo b]= .int .i64 a.length:=fun _=>by rw [hl];rfl
 have z4: ∀g,okL g .len [qo b]=True:=fun _=>eq_true trivial
 refine acO qBn ?_
 simp (disch:=omega) only [qCs,z1,z2,go_sem]
 repeat' first
  |((first|apply qd|apply qb);exact rvk;simp only [go_sem];first|exact ql|apply qe|apply qa|apply qf|skip)
  |with_reducible first|apply aiA|intro _
 all_goals try exact clz
 refine qt (T:=fun i:Nat=>qT 36 [(0,qo a),(1,qo b),(9,qo a),(10,.int .i64 a.length),(11,.int .i64 i)]) (H:=fun _=>h) (inv:=fun i=>i≤a.length∧ ∀j,j<i→(fun i=>qro (a.getD i 0) (b.getD i 0)) j=0) (m:=fun i=>a.length-i) 0 ⟨Nat.zero_le _,fun j hj=>by omega⟩ (Wk.temps ?_) ?_
 ·(simp only [go_sem,qk,qh,qg,qj];try (repeat' first|(with_reducible apply aiA)|(apply qe;omega)|(apply qa;rfl)|exact ql))
 rintro i ⟨i1,i2⟩ K hK
 by_cases hi:i<a.length
 ·have k1:((i:Int)<a.length)=True:=eq_true (by omega)
  have k2:((a.length:Int)≤i)=False:=eq_false (by omega)
  have k3:((i:Int)<b.length)=True:=eq_true (by omega)
  have hE:=jr (f:=fun i=>qro (a.getD i 0) (b.getD i 0)) hi i2
  have c122:=fun h=>qDe (a.getD i 0) (b.getD i 0) h
  have k4:((b.length:Int)≤i)=False:=eq_false (by omega)
  by_cases g:qro (a.getD i 0) (b.getD i 0)=0
  ·simp only [g]at c122
   simp (disch:=omega) only [qo,k1,k2,k3,k4,go_sem]
   repeat' first
    |((first|refine cA (c122 _) ?_ ?_|refine cG (fun e=>c122 _) ?_ ?_|refine cU (fun _=>c122 _) ?_ ?_);exact flk;simp (disch:=omega) only [qo,k1,k2,k3,k4,go_sem])
    |((first|apply qd|apply qb);exact rvk;simp only [go_sem];first|exact ql|apply qe|apply qa|apply qf|skip)
    |with_reducible first|apply aiA|intro _
   all_goals try exact clz
   refine hK _ _ (i+1) ⟨hi,fun j hj=> ?_⟩ (by omega) (Wk.temps ?_)
   ·by_cases e:j=i
    ·subst e;exact g
    ·exact i2 j (by omega)
   ·(simp only [qo,go_sem,qk,qh,qg,qj];try (repeat' first|(with_reducible apply aiA)|(apply qe;omega)|(apply qa;rfl)|exact ql))
  ·have k5:(qro (a.getD i 0) (b.getD i 0)=0)=False:=eq_false g
   rw [hR,hE g]
   simp (disch:=omega) only [qo,k1,k2,k3,k4,go_sem]
   repeat' first
    |((first|refine cA (c122 _) ?_ ?_|refine cG (fun e=>c122 _) ?_ ?_|refine cU (fun _=>c122 _) ?_ ?_);exact flk;simp (disch:=omega) only [qo,k1,k2,k3,k4,k5,go_sem])
    |((first|apply qd|apply qb);exact rvk;simp only [go_sem];first|exact ql|apply qe|apply qa|apply qf|skip)
    |with_reducible first|apply aiA|intro _
   all_goals try exact clz
 ·have k1:((i:Int)<a.length)=False:=eq_false (by omega)
  have hz:=qY (f:=fun i=>qro (a.getD i 0) (b.getD i 0)) (n:=a.length) (fun j hj=>i2 j (by omega))
  rw [hR,hz]
  have k2:((a.length:Int)<a.length)=False:=eq_false (by omega)
  simp (disch:=omega) only [z1,z2,z3,z4,k1,go_sem]
  repeat' first
   |((first|apply qd|apply qb);exact rvk;simp only [go_sem];first|exact ql|apply qe|apply qa|apply qf|skip)
   |with_reducible first|apply aiA|intro _
  all_goals try exact clz
end RC
end
