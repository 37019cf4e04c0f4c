import Derived.Test.YtgoandblgcjleaaGreatDoorK9
import Derived.Test.YtgoandblgcjleaaGreatDoorK3
import Derived.Test.YtgoandblgcjleaaGreatDoorK5
import Derived.Test.YtgoandblgcjleaaGreatDoorK8
import Derived.Test.YtgoandblgcjleaaGreatDoorProg
set_option linter.all false
set_option linter.unusedSimpArgs false
set_option linter.unusedVariables false
set_option linter.unusedSectionVars false
set_option maxHeartbeats 64000000
set_option maxRecDepth 100000
section
open Go Go.Proofs AF HY LN
namespace RC
def qqw(C L:List Int):List Int:=L.foldl (fun C n=>C.set n.toNat (C.getD n.toNat 0+1)) C
theorem qnX(L:List Int): ∀C:List Int,(qqw C L).length=C.length:=by
 induction L with
 |nil=>intro C;rfl
 |cons n L ih=>intro C;show (qqw (C.set _ _) L).length=_;rw[ih];simp
theorem qlk{C:List Int}{n:Nat}(h:n<C.length):(qx C)[n]? =some (.int .i64 (C.getD n 0)):=by
 unfold qx;rw[List.getElem?_map,zA h,gdqA,zA h];rfl
theorem qou{names:List Str}{gs:List Gr}{sg:List Str}:inB names.length (qdb names gs sg)∧ ∀i,0<i→i<(qdb names gs sg).length→(qdb names gs sg).getD (i-1) 0<(qdb names gs sg).getD i 0:=by
 unfold qdb;split
 ·rename_i h;have h':=h;unfold qkP at h';split at h'
  ·cases h'
  rename_i h1;have hok:=qha (by simpa using h1);have hz:=kp.1 h';obtain⟨m1,m2⟩:=qrF hok hz;have hsort:(zZ (qqr names gs sg sg.length).testBit 64).Pairwise (· < ·):=by
   unfold zZ;rw[List.pairwise_map];exact (List.pairwise_lt_range.filter _).imp (fun h=>Int.ofNat_lt.2 h)
  have hmem: ∀n∈zZ (qqr names gs sg sg.length).testBit 64,0≤n∧n<names.length:=by
   intro n hn;unfold zZ at hn;obtain⟨k,hk,rfl⟩:=List.mem_map.1 hn;have hk2:=(List.mem_filter.1 hk).2;rw[m2 k]at hk2;obtain⟨j,hj,hm⟩:=of_decide_eq_true hk2;have hf: ¬(nIx names (sg.getD j [])<0∧gIx gs (sg.getD j [])<0):=by
    intro hc
    have:=hz j hj
    unfold qpO at this;rw[if_pos hc]at this;cases this
   exact qaa (qkK hok hf) _ hm
  refine⟨fun i hi=> ?_,fun i h0 hi=> ?_⟩
  ·rw[gdqA,zA hi];exact hmem _ (List.getElem_mem hi)
  ·rw[gdqA,gdqA,zA hi,zA (show i-1<_ by omega)];exact List.pairwise_iff_getElem.1 hsort (i-1) i (by omega) hi (by omega)
 ·exact⟨fun i hi=>absurd hi (Nat.not_lt_zero i),fun i _ hi=>absurd hi (Nat.not_lt_zero i)⟩
theorem qov{names:List Str}{gs:List Gr}{sg:List Str}:inB 32 (qdb names gs sg):=by
 by_cases h:qkP names gs sg=0
 ·have h':=h;unfold qkP at h';split at h'
  ·cases h'
  rename_i h1;have hok:=qha (by simpa using h1);exact qgN qou.1 (by have:=hok.n32;omega)
 ·have:qdb names gs sg= []:=by unfold qdb;rw[if_neg h]
  rw[this];exact fun i hi=>absurd hi (Nat.not_lt_zero i)
structure Tk where
 text:Str
 norm:Str
 page:Str
 line:Int
 flags:Int
 name:Str
 deriving Inhabited, DecidableEq
def tkC(t:Tk):List AV:= [.str t.text,.str t.norm,.str t.page,.int .i64 t.line,.int .i64 t.flags,.str t.name]
def jc(l:List Tk):AV:= .sl l.length fun i=>tkC (l.getD i default)
def qo(L:List (List Tk)):AV:= .sl L.length fun i=> [jc (L.getD i [])]
def qr(L:List (List Int)):AV:= .sl L.length fun i=> [ql (L.getD i [])]
structure Co where
 sec:Str
 sig:List Str
 tok:List (List Tk)
 col:List (List Int)
 deriving Inhabited
def coC(x:Co):List AV:= [.str x.sec,strs x.sig,qo x.tok,qr x.col]
structure Rd where
 words:List Str
 src:List Int
 deriving Inhabited, DecidableEq
def rdC(r:Rd):List AV:= [strs r.words,ql r.src]
def zx(l:List Rd):AV:= .sl l.length fun i=>rdC (l.getD i default)
structure Un where
 frm:Int
 to:Int
 rds:List Rd
 deriving Inhabited, DecidableEq
def unC(u:Un):List AV:= [.int .i64 u.frm,.int .i64 u.to,zx u.rds]
def qy(l:List Un):AV:= .sl l.length fun i=>unC (l.getD i default)
structure Wd where
 text:Str
 col:Int
 unit:Int
 dec:Int
 joined:Bool
 verse:Bool
 name:Str
 deriving Inhabited, DecidableEq
def wdC(w:Wd):List AV:= [.str w.text,.int .i64 w.col,.int .i64 w.unit,.int .i64 w.dec,.bool w.joined,.bool w.verse,.str w.name]
def qU(l:List Wd):AV:= .sl l.length fun i=>wdC (l.getD i default)
theorem flag_tksV(L:List Tk):(jc L).flag=true:=rfl
theorem strip_tksV(L:List Tk):(jc L).strip=jc L:=rfl
theorem flag_tkssV(L:List (List Tk)):(qo L).flag=true:=rfl
theorem strip_tkssV(L:List (List Tk)):(qo L).strip=qo L:=rfl
theorem flag_colsV(L:List (List Int)):(qr L).flag=true:=rfl
theorem strip_colsV(L:List (List Int)):(qr L).strip=qr L:=rfl
theorem flag_rdsV(L:List Rd):(zx L).flag=true:=rfl
theorem strip_rdsV(L:List Rd):(zx L).strip=zx L:=rfl
theorem flag_unsV(L:List Un):(qy L).flag=true:=rfl
theorem strip_unsV(L:List Un):(qy L).strip=qy L:=rfl
theorem flag_wdsV(L:List Wd):(qU L).flag=true:=rfl
theorem strip_wdsV(L:List Wd):(qU L).strip=qU L:=rfl
section
variable {fz : Nat → Bool} {h : List AObj} {n : Nat}
theorem rei_tksV(L:List Tk):rei fz h (n+1) (jc L)=jc L:=rfl
theorem rei_tkssV(L:List (List Tk)):rei fz h (n+1) (qo L)=qo L:=rfl
theorem rei_colsV(L:List (List Int)):rei fz h (n+1) (qr L)=qr L:=rfl
theorem rei_rdsV(L:List Rd):rei fz h (n+1) (zx L)=zx L:=rfl
theorem rei_unsV(L:List Un):rei fz h (n+1) (qy L)=qy L:=rfl
theorem rei_wdsV(L:List Wd):rei fz h (n+1) (qU L)=qU L:=rfl
theorem frz_tksV(L:List Tk):frz fz h (n+1) (jc L)=jc L:=rfl
theorem frz_tkssV(L:List (List Tk)):frz fz h (n+1) (qo L)=qo L:=rfl
theorem frz_colsV(L:List (List Int)):frz fz h (n+1) (qr L)=qr L:=rfl
theorem frz_rdsV(L:List Rd):frz fz h (n+1) (zx L)=zx L:=rfl
theorem frz_unsV(L:List Un):frz fz h (n+1) (qy L)=qy L:=rfl
theorem frz_wdsV(L:List Wd):frz fz h (n+1) (qU L)=qU L:=rfl
end
attribute [go_sem] flag_tksV strip_tksV flag_tkssV strip_tkssV flag_colsV strip_colsV flag_rdsV strip_rdsV flag_unsV strip_unsV flag_wdsV strip_wdsV rei_tksV rei_tkssV rei_colsV rei_rdsV rei_unsV rei_wdsV frz_tksV frz_tkssV frz_colsV frz_rdsV frz_unsV frz_wdsV
def qoO(f:Int):Bool:=f.toNat.testBit 1
def mkB(f:Int):Bool:=f.toNat.testBit 3
def qnE(s:Str):Bool:=decide (s= [])||jk s
def qys(s:Str):Bool:=decide (s.length=1)&&(decide (zK (ch s 0)=5)||decide (zK (ch s 0)=4))
def qfD(c:UInt8):Bool:=decide (zK c=1)||(decide (zK c=3)||(decide (zK c=2)||decide (zK c=4)))
def qu7(s:Str):Bool:=decide (s≠ [])&&(decide (s.length≤64)&&(List.range s.length).all fun i=>qfD (ch s i))
def txB(t:Tk):Bool:=if qoO t.flags=true then qfa t.text&&decide (t.norm=t.text) else if mkB t.flags=true then qys t.text&&decide (t.norm=t.text) else qav t.text&&qu7 t.norm
def tkE(t:Tk):Int:=
 if t.flags<0∨31<t.flags then 2 else if qoO t.flags=true∧mkB t.flags=true then 8 else if txB t=false then 11 else if t.line<0 then 2 else if qnE t.page=false∨qnE t.name=false then 14 else 0
def qdY(l:List Tk):Int:=if 1024<l.length then 4 else if qY (fun j=>decide (tkE (l.getD j default)≠0)) l.length=true then 1 else 0
def srE(x:Co):Int:=
 if jk x.sec=false then 14 else if x.sig.length=0 then 5 else if 32<x.sig.length then 4 else if qa5 (zO x.sig) 0 x.sig.length≠0 then qa5 (zO x.sig) 0 x.sig.length else
  if x.tok.length≠x.sig.length then 9 else qa5 (fun i=>qdY (x.tok.getD i [])) 0 x.tok.length
def cnC(col:List (List Int))(s:Nat):Nat→Nat
 |0=>0
 |i+1=>cnC col s i+if (col.getD i []).getD s 0= -1 then 0 else 1
def enB(tok:List (List Tk))(col:List (List Int))(i s:Nat):Bool:=
 decide ((col.getD i []).getD s 0= -1)||(decide ((col.getD i []).getD s 0=(cnC col s i:Int))&&decide ((col.getD i []).getD s 0<((tok.getD s []).length:Int)))
def qem(tok:List (List Tk))(col:List (List Int))(i:Nat):Bool:=
 decide ((col.getD i []).length=tok.length)&&(!qY (fun s=> !enB tok col i s) tok.length&&qY (fun s=> !decide ((col.getD i []).getD s 0= -1)) tok.length)
def alB(tok:List (List Tk))(col:List (List Int)):Bool:=
 !qY (fun i=> !qem tok col i) col.length&& !qY (fun s=> !decide (cnC col s col.length=(tok.getD s []).length)) tok.length
def coE(x:Co):Int:=if srE x≠0 then srE x else if alB x.tok x.col=false then 19 else 0
structure CoOk (x:Co):Prop where
 sg:0<x.sig.length∧x.sig.length≤32
 tn:x.tok.length=x.sig.length
 tl: ∀s,s<x.tok.length→(x.tok.getD s []).length≤1024
 te: ∀s,s<x.tok.length→ ∀j,j<(x.tok.getD s []).length→tkE ((x.tok.getD s []).getD j default)=0
 cl: ∀i,i<x.col.length→(x.col.getD i []).length=x.sig.length
 ce: ∀i,i<x.col.length→ ∀s,s<x.sig.length→(x.col.getD i []).getD s 0= -1∨((x.col.getD i []).getD s 0=(cnC x.col s i:Int)∧(x.col.getD i []).getD s 0<((x.tok.getD s []).length:Int))
 cs: ∀i,i<x.col.length→ ∃s,s<x.sig.length∧(x.col.getD i []).getD s 0≠ -1
 ct: ∀s,s<x.sig.length→cnC x.col s x.col.length=(x.tok.getD s []).length
theorem qc6{x:Co}(h:coE x=0):CoOk x:=by
 unfold coE at h;split at h
 ·rename_i h1;exact absurd h h1
 rename_i h1;have h1:=Classical.not_not.1 h1;split at h
 ·cases h
 rename_i h2;unfold srE at h1;split at h1
 ·cases h1
 split at h1
 ·cases h1
 rename_i g2;split at h1
 ·cases h1
 rename_i g3;split at h1
 ·rename_i g4;exact absurd h1 g4
 split at h1
 ·cases h1
 rename_i g5;have g5:=Classical.not_not.1 g5;have h3:=kp.1 h1;have h2:alB x.tok x.col=true:=by simpa using h2
 unfold alB at h2;rw[Bool.and_eq_true,Bool.not_eq_true',Bool.not_eq_true',qn,qn]at h2;obtain⟨h4,h5⟩:=h2;have h6: ∀i,i<x.col.length→qem x.tok x.col i=true:=fun i hi=>by simpa using h4 i hi
 have hrow: ∀s,s<x.tok.length→(x.tok.getD s []).length≤1024∧ ∀j,j<(x.tok.getD s []).length→tkE ((x.tok.getD s []).getD j default)=0:=fun s hs=>by
  have:=h3 s hs
  unfold qdY at this;split at this
  ·cases this
  rename_i k1;split at this
  ·cases this
  rename_i k2;refine⟨by omega,fun j hj=> ?_⟩
  have:=qn.1 (by simpa using k2) j hj
  simpa using this
 refine⟨by omega,g5,fun s hs=>(hrow s hs).1,fun s hs=>(hrow s hs).2,fun i hi=> ?_,fun i hi s hs=> ?_,fun i hi=> ?_,fun s hs=> ?_⟩
 ·have:=h6 i hi
  unfold qem at this;rw[Bool.and_eq_true,decide_eq_true_iff]at this;omega
 ·have:=h6 i hi
  unfold qem at this;rw[Bool.and_eq_true,Bool.and_eq_true,Bool.not_eq_true',qn]at this
  have:=this.2.1 s (by omega)
  have this:enB x.tok x.col i s=true:=by simpa using this
  unfold enB at this;simpa[Bool.or_eq_true,Bool.and_eq_true] using this
 ·have:=h6 i hi
  unfold qem at this;rw[Bool.and_eq_true,Bool.and_eq_true]at this;obtain⟨s,hs,hv⟩:=qv.1 this.2.2;exact⟨s,by omega,by simpa using hv⟩
 ·have:=h5 s (by omega)
  simpa using this
def clT(x:Co)(k s:Nat):Option Str:=if (x.col.getD k []).getD s 0<0 then none else some ((x.tok.getD s []).getD ((x.col.getD k []).getD s 0).toNat default).text
def cmB(x:Co)(k:Nat):Bool:= !qY (fun s=>decide (clT x k s=none)|| !decide (clT x k s=clT x k 0)) x.sig.length
def rdG(x:Co)(s f:Nat):Nat→List Str
 |0=> []
 |d+1=>rdG x s f d++(clT x (f+d) s).toList
theorem qaV(x:Co)(s f:Nat): ∀d,(rdG x s f d).length≤d:=by
 intro d
 induction d with
 |zero=>exact Nat.le_refl _
 |succ d ih=>
  unfold rdG;rw[List.length_append];cases clT x (f+d) s with
  |none=>simp only[Option.toList_none,List.length_nil];omega
  |some w=>simp only[Option.toList_some,List.length_cons,List.length_nil];omega
def qfc(L:List Rd)(w:List Str):Int:=qag (fun j=>decide (w=(L.getD j default).words)) L.length 0
def qds(L:List Rd)(w:List Str)(s:Nat):List Rd:=if qfc L w<0 then L++ [⟨w,[(s:Int)]⟩] else L.set (qfc L w).toNat ⟨w,(L.getD (qfc L w).toNat default).src++ [(s:Int)]⟩
def jX(x:Co)(f d:Nat):Nat→List Rd
 |0=> []
 |s+1=>qds (jX x f d s) (rdG x s f d) s
def qdj(x:Co)(f t:Nat):List Rd:=jX x f (t-f) x.sig.length
theorem qnK(L:List Rd)(w:List Str)(s:Nat):(qds L w s).length≤L.length+1:=by
 unfold qds;split
 ·simp
 ·rw[List.length_set];omega
theorem qdS(x:Co)(f d:Nat): ∀s,(jX x f d s).length≤s:=by
 intro s
 induction s with
 |zero=>exact Nat.le_refl _
 |succ s ih=>
  have:=qnK (jX x f d s) (rdG x s f d) s
  unfold jX;omega
def unB(x:Co)(beh:Int)(u:Un):Bool:= !(decide (u.frm≤beh)||(decide (u.frm<0)||(decide (u.to≤u.frm)||(decide ((x.col.length:Int)<u.to)|| !decide (u.rds=qdj x u.frm.toNat u.to.toNat)))))
def beH(l:List Un)(i:Nat):Int:=if i=0 then-1 else (l.getD (i-1) default).to
def qi0(x:Co)(l:List Un):Bool:= !qY (fun i=> !unB x (beH l i) (l.getD i default)) l.length
def cvB(l:List Un)(k:Nat):Bool:=qY (fun i=>decide ((l.getD i default).frm≤k)&&decide ((k:Int)<(l.getD i default).to)) l.length
def cvA(x:Co)(l:List Un):Bool:= !qY (fun k=> !cvB l k&& !cmB x k) x.col.length
def rgB(x:Co)(l:List Un):Bool:=qi0 x l&&cvA x l
def vaE(x:Co)(l:List Un):Int:=if coE x≠0 then 1 else if rgB x l=false then 20 else 0
def nxt(p:Nat→Bool):Nat→Nat→Nat
 |0,k=>k
 |d+1,k=>if p k=true then k else nxt p d (k+1)
theorem qdI(p:Nat→Bool): ∀d k,k≤nxt p d k∧nxt p d k≤k+d∧(∀j,k≤j→j<nxt p d k→p j=false)∧(nxt p d k<k+d→p (nxt p d k)=true):=by
 intro d
 induction d with
 |zero=>intro k;exact⟨Nat.le_refl _,Nat.le_refl _,fun j h1 h2=>by unfold nxt at h2;omega,fun h=>by unfold nxt at h;omega⟩
 |succ d ih=>
  intro k;unfold nxt;split
  ·rename_i h;exact⟨Nat.le_refl _,by omega,fun j h1 h2=>by omega,fun _=>h⟩
  ·rename_i h;obtain⟨h1,h2,h3,h4⟩:=ih (k+1);refine⟨by omega,by omega,fun j g1 g2=> ?_,fun g=>h4 (by omega)⟩
   by_cases e:j=k
   ·subst e;simpa using h
   ·exact h3 j (by omega) g2
def kR(p:Nat→Bool)(n:Nat):Nat→Nat→List (Nat×Nat)
 |0,_=> []
 |d+1,f=>if n≤f then [] else (if f<nxt p (n-f) f then [(f,nxt p (n-f) f)] else [])++kR p n d (nxt p (n-f) f+1)
def qfR(p:Nat→Bool)(n:Nat):List (Nat×Nat):=kR p n (n+1) 0
theorem qg8(p:Nat→Bool)(n:Nat): ∀d f,(∀r∈kR p n d f,f≤r.1∧r.1<r.2∧r.2≤n∧ ∀k,r.1≤k→k<r.2→p k=false)∧(n-f<d→ ∀k,f≤k→k<n→p k=false→ ∃r∈kR p n d f,r.1≤k∧k<r.2):=by
 intro d
 induction d with
 |zero=>intro f;exact⟨fun r hr=>absurd hr List.not_mem_nil,fun h=>absurd h (Nat.not_lt_zero _)⟩
 |succ d ih=>
  intro f;unfold kR;split
  ·rename_i h;exact⟨fun r hr=>absurd hr List.not_mem_nil,fun _ k h1 h2=>by omega⟩
  ·rename_i h;obtain⟨h1,h2,h3,h4⟩:=qdI p (n-f) f;obtain⟨i1,i2⟩:=ih (nxt p (n-f) f+1);obtain⟨t,ht⟩: ∃t,t=nxt p (n-f) f:=⟨_,rfl⟩
   rw[←ht]at h1 h2 h3 h4 i1 i2 ⊢;refine⟨fun r hr=> ?_,fun hd k k1 k2 k3=> ?_⟩
   ·rcases List.mem_append.1 hr with hr|hr
    ·split at hr
     ·rename_i hft;rw[List.mem_singleton]at hr;subst hr;exact⟨Nat.le_refl _,hft,by simp only;omega,h3⟩
     ·cases hr
    ·obtain⟨g1,g2⟩:=i1 r hr;exact⟨by omega,g2⟩
   ·by_cases hk:k<t
    ·refine⟨(f,t),List.mem_append_left _ ?_,k1,hk⟩;rw[if_pos (by omega)];exact List.mem_singleton.2 rfl
    ·have hne:k≠t:=fun e=>by
      subst e;rw[h4 (by omega)]at k3;cases k3
     obtain⟨r,hr,g⟩:=i2 (by omega) k (by omega) k2 k3;exact⟨r,List.mem_append_right _ hr,g⟩
theorem quh{p:Nat→Bool}{n:Nat}{r:Nat×Nat}(hr:r∈qfR p n):r.1<r.2∧r.2≤n∧ ∀k,r.1≤k→k<r.2→p k=false:=((qg8 p n (n+1) 0).1 r hr).2
theorem qpI{p:Nat→Bool}{n k:Nat}(hk:k<n)(hp:p k=false): ∃r∈qfR p n,r.1≤k∧k<r.2:=(qg8 p n (n+1) 0).2 (by omega) k (Nat.zero_le _) hk hp
structure qCu (x:Co) (l:List Un):Prop where
 pw:l.Pairwise fun a b=>a.to<b.frm
 rg: ∀u∈l,0≤u.frm∧u.frm<u.to∧u.to≤x.col.length∧u.rds=qdj x u.frm.toNat u.to.toNat
theorem quA{x:Co}{beh:Int}{u:Un}:unB x beh u=true↔beh<u.frm∧0≤u.frm∧u.frm<u.to∧u.to≤x.col.length∧u.rds=qdj x u.frm.toNat u.to.toNat:=by
 unfold unB;simp only[Bool.not_eq_true',Bool.or_eq_false_iff,decide_eq_false_iff_not,Bool.not_eq_false',decide_eq_true_eq];constructor
 ·rintro⟨h1,h2,h3,h4,h5⟩;exact⟨by omega,by omega,by omega,by omega,h5⟩
 ·rintro⟨h1,h2,h3,h4,h5⟩;exact⟨by omega,by omega,by omega,by omega,h5⟩
theorem qcJ{x:Co}{l:List Un}(h:qi0 x l=true):qCu x l:=by
 unfold qi0 at h;rw[Bool.not_eq_true',qn]at h;have h1: ∀i,i<l.length→beH l i<(l.getD i default).frm∧0≤(l.getD i default).frm∧(l.getD i default).frm<(l.getD i default).to∧(l.getD i default).to≤x.col.length∧(l.getD i default).rds=qdj x (l.getD i default).frm.toNat (l.getD i default).to.toNat:=fun i hi=>
  quA.1 (by simpa using h i hi)
 have g: ∀i (hi:i<l.length),l.getD i default=l[i]:=fun i hi=>by rw[gdqA,zA hi];rfl
 refine⟨List.pairwise_iff_getElem.2 fun i j hi hj hij=> ?_,fun u hu=> ?_⟩
 ·have key: ∀d,i+1+d<l.length→(l.getD i default).to<(l.getD (i+1+d) default).frm:=by
   intro d
   induction d with
   |zero=>
    intro hd
    have:=(h1 (i+1) hd).1
    unfold beH at this;rw[if_neg (by omega),Nat.add_sub_cancel]at this;exact this
   |succ d ih=>
    intro hd;have h2:=ih (by omega);have h3:=(h1 (i+1+d) (by omega)).2.2.1;have h4:=(h1 (i+1+d+1) (by omega)).1;unfold beH at h4;rw[if_neg (by omega),Nat.add_sub_cancel]at h4;rw[←Nat.add_assoc];omega
  have:=key (j-(i+1)) (by omega)
  rw[show i+1+(j-(i+1))=j by omega,g i hi,g j hj]at this;exact this
 ·obtain⟨i,hi,rfl⟩:=List.getElem_of_mem hu
  have:=(h1 i hi).2
  rw[g i hi]at this;exact this
theorem qkD{l:List Un}{k:Nat}:cvB l k=true↔ ∃u∈l,u.frm≤k∧(k:Int)<u.to:=by
 unfold cvB;rw[qv];constructor
 ·rintro⟨i,hi,h⟩;rw[gdqA,zA hi,Bool.and_eq_true,decide_eq_true_iff,decide_eq_true_iff]at h;exact⟨_,List.getElem_mem hi,h⟩
 ·rintro⟨u,hu,h⟩;obtain⟨i,hi,rfl⟩:=List.getElem_of_mem hu;refine⟨i,hi,?_⟩;rw[gdqA,zA hi,Bool.and_eq_true,decide_eq_true_iff,decide_eq_true_iff];exact h
def rnB(l:List Un)(r:Nat×Nat):Bool:=qY (fun i=>decide ((l.getD i default).frm≤r.1)&&decide ((r.2:Int)≤(l.getD i default).to)) l.length
theorem qmi{l:List Un}{r:Nat×Nat}:rnB l r=true↔ ∃u∈l,u.frm≤r.1∧(r.2:Int)≤u.to:=by
 unfold rnB;rw[qv];constructor
 ·rintro⟨i,hi,h⟩;rw[gdqA,zA hi,Bool.and_eq_true,decide_eq_true_iff,decide_eq_true_iff]at h;exact⟨_,List.getElem_mem hi,h⟩
 ·rintro⟨u,hu,h⟩;obtain⟨i,hi,rfl⟩:=List.getElem_of_mem hu;refine⟨i,hi,?_⟩;rw[gdqA,zA hi,Bool.and_eq_true,decide_eq_true_iff,decide_eq_true_iff];exact h
theorem qo3{α:Type}{L:List α}{R:α→α→Prop}(h:L.Pairwise R){a b:α}(ha:a∈L)(hb:b∈L)(hne:a≠b):R a b∨R b a:=by
 induction L with
 |nil=>cases ha
 |cons c r ih=>
  obtain⟨h1,h2⟩:=List.pairwise_cons.1 h;rcases List.mem_cons.1 ha with ea|na
  ·rcases List.mem_cons.1 hb with eb|nb
   ·exact absurd (ea.trans eb.symm) hne
   ·rw[ea];exact .inl (h1 b nb)
  ·rcases List.mem_cons.1 hb with eb|nb
   ·rw[eb];exact .inr (h1 a na)
   ·exact ih h2 na nb
theorem qsP{x:Co}{l:List Un}(h:qi0 x l=true):((qfR (cmB x) x.col.length).all (rnB l)=true)↔cvA x l=true:=by
 have ho:=qcJ h;unfold cvA;rw[List.all_eq_true,Bool.not_eq_true',qn];constructor
 ·intro hr k hk;cases hc:cmB x k with
  |true=>simp
  |false=>
   obtain⟨r,hr1,r1,r2⟩:=qpI hk hc;obtain⟨u,hu,u1,u2⟩:=qmi.1 (hr r hr1);rw[qkD.2 ⟨u,hu,by omega,by omega⟩];rfl
 ·intro hk r hr;obtain⟨r1,r2,r3⟩:=quh hr;have cov: ∀k,r.1≤k→k<r.2→ ∃u∈l,u.frm≤(k:Int)∧(k:Int)<u.to:=fun k h1 h2=>by
   have h3:=hk k (by omega);rw[r3 k h1 h2,Bool.not_false,Bool.and_true,Bool.not_eq_false']at h3;exact qkD.1 h3
  obtain⟨u,hu,u1,u2⟩:=cov r.1 (Nat.le_refl _) r1;refine qmi.2 ⟨u,hu,u1,?_⟩
  by_cases ht:(r.2:Int)≤u.to
  ·exact ht
  ·exfalso;have hur:=ho.rg u hu;obtain⟨k,hk2⟩: ∃k:Nat,u.to=(k:Int):=⟨u.to.toNat,by omega⟩
   obtain⟨v,hv,v1,v2⟩:=cov k (by omega) (by omega);have hvr:=ho.rg v hv
   by_cases e:u=v
   ·subst e;omega
   ·rcases qo3 ho.pw hu hv e with h1|h1
    ·omega
    ·omega
def fnU(l:List Un)(c:Int):Int:=qag (fun i=>decide ((l.getD i default).frm≤c)&&decide (c<(l.getD i default).to)) l.length 0
theorem qfz(l:List Un)(c:Int): -1≤fnU l c∧fnU l c<l.length:=by
 unfold fnU;rcases zd (fun i=>decide ((l.getD i default).frm≤c)&&decide (c<(l.getD i default).to)) l.length with⟨i,h1,_,_,h4⟩|⟨_,h2⟩
 ·rw[h4];omega
 ·rw[h2];omega
theorem qq8{l:List Un}{c:Int}{k:Nat}(h:fnU l c=k):k<l.length∧(l.getD k default).frm≤c∧c<(l.getD k default).to:=by
 unfold fnU at h;rcases zd (fun i=>decide ((l.getD i default).frm≤c)&&decide (c<(l.getD i default).to)) l.length with⟨i,h1,h2,_,h4⟩|⟨_,h2⟩
 ·rw[h4]at h;have e:i=k:=by omega
  subst e;rw[Bool.and_eq_true,decide_eq_true_iff,decide_eq_true_iff]at h2;exact⟨h1,h2⟩
 ·rw[h2]at h;omega
theorem qq9{l:List Un}{c:Int}(h:fnU l c<0){i:Nat}(hi:i<l.length): ¬((l.getD i default).frm≤c∧c<(l.getD i default).to):=by
 unfold fnU at h;rcases zd (fun i=>decide ((l.getD i default).frm≤c)&&decide (c<(l.getD i default).to)) l.length with⟨j,_,_,_,h4⟩|⟨h1,_⟩
 ·rw[h4]at h;omega
 ·have:=h1 i hi
  rw[Bool.and_eq_false_iff,decide_eq_false_iff_not,decide_eq_false_iff_not]at this;omega
theorem qx6{x:Co}{l:List Un}(h:qi0 x l=true){c:Int}{k:Nat}(hk:k<l.length)(h1:(l.getD k default).frm≤c)(h2:c<(l.getD k default).to):fnU l c=k:=by
 have ho:=qcJ h;rcases Int.lt_or_le (fnU l c) 0 with hn|hn
 ·exact absurd ⟨h1,h2⟩ (qq9 hn hk)
 ·obtain⟨j,hj⟩: ∃j:Nat,fnU l c=j:=⟨(fnU l c).toNat,by omega⟩
  obtain⟨j1,j2,j3⟩:=qq8 hj;rw[hj];have g: ∀i (hi:i<l.length),l.getD i default=l[i]:=fun i hi=>by rw[gdqA,zA hi];rfl
  rw[g k hk]at h1 h2;rw[g j j1]at j2 j3;rcases Nat.lt_trichotomy j k with e|e|e
  ·have:=List.pairwise_iff_getElem.1 ho.pw j k j1 hk e;omega
  ·omega
  ·have:=List.pairwise_iff_getElem.1 ho.pw k j hk j1 e;omega
def wdE(x:Co)(l:List Un)(w bef:Wd)(first:Bool):Int:=
 if w.text= []∨64<w.text.length then 11 else if w.col<0∨(x.col.length:Int)≤w.col∨(first=false∧w.col<bef.col) then 19 else if w.unit< -1∨(l.length:Int)≤w.unit then 20 else
  if fnU l w.col≠w.unit then 20 else if w.dec< -1∨(w.unit<0∧w.dec≠ -1)∨(first=false∧0≤w.unit∧w.unit=bef.unit∧w.dec≠bef.dec) then 2 else 0
def qgt(b:List Wd)(i:Nat):Wd:=if i=0 then default else b.getD (i-1) default
def qnw(x:Co)(l:List Un)(b:List Wd)(i:Nat):Int:=wdE x l (b.getD i default) (qgt b i) (decide (i=0))
def cW(b:List Wd)(c:Int):Nat→Nat
 |0=>0
 |i+1=>cW b c i+if (b.getD i default).col=c then 1 else 0
def txA(x:Co)(c:Nat):Str:=((x.tok.getD 0 []).getD ((x.col.getD c []).getD 0 0).toNat default).text
def ccB(x:Co)(b:List Wd)(c:Nat):Bool:=decide (cW b c b.length=1)&&qY (fun i=>decide ((b.getD i default).col=c)&&decide ((b.getD i default).text=txA x c)) b.length
def qz1(x:Co)(l:List Un)(b:List Wd)(c:Nat):Int:=if 0≤fnU l c then 0 else if ccB x b c=true then 0 else 9
def pvE(x:Co)(l:List Un)(b:List Wd):Int:=
 if vaE x l≠0 then vaE x l else if qa5 (qnw x l b) 0 b.length≠0 then qa5 (qnw x l b) 0 b.length else qa5 (qz1 x l b) 0 x.col.length
theorem qsl{b:List Wd}{c:Int}: ∀ {n:Nat},cW b c n=0↔ ∀i,i<n→(b.getD i default).col≠c:=by
 intro n
 induction n with
 |zero=>exact⟨fun _ i h=>absurd h (Nat.not_lt_zero i),fun _=>rfl⟩
 |succ n ih=>
  unfold cW;constructor
  ·intro h i hi
   by_cases e:i=n
   ·subst e;intro hc;rw[if_pos hc]at h;omega
   ·exact ih.1 (by omega) i (by omega)
  ·intro h;rw[ih.2 fun i hi=>h i (by omega),if_neg (h n (by omega))]
theorem qwy(x:Co)(b:List Wd)(c:Nat):ccB x b c=(decide (cW b c b.length=1)&& !qY (fun i=>decide ((b.getD i default).col=c)&& !decide ((b.getD i default).text=txA x c)) b.length):=by
 unfold ccB
 by_cases h:cW b c b.length=1
 ·rw[decide_eq_true h,Bool.true_and,Bool.true_and];have key: ∀n,n≤b.length→cW b c n=1→ ∃i,i<n∧(b.getD i default).col=c∧ ∀j,j<n→j≠i→(b.getD j default).col≠c:=by
   intro n
   induction n with
   |zero=>intro _ h;cases h
   |succ n ih=>
    intro hn h;unfold cW at h
    by_cases e:(b.getD n default).col=c
    ·rw[if_pos e]at h;have h0:cW b c n=0:=by omega
     exact⟨n,by omega,e,fun j hj hne=>qsl.1 h0 j (by omega)⟩
    ·rw[if_neg e]at h;obtain⟨i,h1,h2,h3⟩:=ih (by omega) (by omega);refine⟨i,by omega,h2,fun j hj hne=> ?_⟩
     by_cases ej:j=n
     ·subst ej;exact e
     ·exact h3 j (by omega) hne
  obtain⟨i,h1,h2,h3⟩:=key b.length (Nat.le_refl _) h
  by_cases ht:(b.getD i default).text=txA x c
  ·rw[qv.2 ⟨i,h1,by rw[decide_eq_true h2,decide_eq_true ht];rfl⟩,qn.2 fun j hj=> ?_]
   ·rfl
   ·by_cases e:j=i
    ·subst e;rw[decide_eq_true ht];simp
    ·rw[decide_eq_false (h3 j hj e)];rfl
  ·have e1:qY (fun i=>decide ((b.getD i default).col=c)&&decide ((b.getD i default).text=txA x c)) b.length=false:=qn.2 fun j hj=>by
    by_cases e:j=i
    ·subst e;rw[decide_eq_false ht,Bool.and_false]
    ·rw[decide_eq_false (h3 j hj e),Bool.false_and]
   have e2:qY (fun i=>decide ((b.getD i default).col=c)&& !decide ((b.getD i default).text=txA x c)) b.length=true:=qv.2 ⟨i,h1,by rw[decide_eq_true h2,decide_eq_false ht];rfl⟩;rw[e1,e2];rfl
 ·rw[decide_eq_false h,Bool.false_and,Bool.false_and]
structure qu1 (x:Co) (l:List Un) (b:List Wd):Prop where
 co:coE x=0
 un:qi0 x l=true
 cv:cvA x l=true
 tx: ∀i,i<b.length→(b.getD i default).text≠ []∧(b.getD i default).text.length≤64
 cl: ∀i,i<b.length→0≤(b.getD i default).col∧(b.getD i default).col<x.col.length
 ord: ∀i,i+1<b.length→(b.getD i default).col≤(b.getD (i+1) default).col
 un2: ∀i,i<b.length→fnU l (b.getD i default).col=(b.getD i default).unit
 cc: ∀c,c<x.col.length→fnU l c<0→ccB x b c=true
theorem qrs{x:Co}{l:List Un}{b:List Wd}(h:pvE x l b=0):qu1 x l b:=by
 unfold pvE at h;split at h
 ·rename_i h1;exact absurd h h1
 rename_i h1;have h1:=Classical.not_not.1 h1;split at h
 ·rename_i h2;exact absurd h h2
 rename_i h2;have h2:=kp.1 (Classical.not_not.1 h2);have h3:=kp.1 h;unfold vaE at h1;split at h1
 ·cases h1
 rename_i g1;split at h1
 ·cases h1
 rename_i g2;have g2:rgB x l=true:=by simpa using g2
 unfold rgB at g2;rw[Bool.and_eq_true]at g2;have hw: ∀i,i<b.length→((b.getD i default).text≠ []∧(b.getD i default).text.length≤64)∧(0≤(b.getD i default).col∧(b.getD i default).col<x.col.length)∧(0<i→(qgt b i).col≤(b.getD i default).col)∧fnU l (b.getD i default).col=(b.getD i default).unit:=fun i hi=>by
  have:=h2 i hi
  unfold qnw wdE at this;split at this
  ·cases this
  rename_i k1;split at this
  ·cases this
  rename_i k2;split at this
  ·cases this
  split at this
  ·cases this
  rename_i k4;refine⟨⟨fun e=>k1 (.inl e),Nat.le_of_not_lt fun e=>k1 (.inr e)⟩,⟨by omega,by omega⟩,fun h0=> ?_,Classical.not_not.1 k4⟩;refine Int.not_lt.1 fun hc=>k2 (.inr (.inr ⟨decide_eq_false (by omega),hc⟩))
 refine⟨Classical.not_not.1 g1,g2.1,g2.2,fun i hi=>(hw i hi).1,fun i hi=>(hw i hi).2.1,fun i hi=> ?_,fun i hi=>(hw i hi).2.2.2,fun c hc hn=> ?_⟩
 ·have:=(hw (i+1) hi).2.2.1 (by omega)
  unfold qgt at this;rw[if_neg (by omega),Nat.add_sub_cancel]at this;exact this
 ·have:=h3 c hc
  unfold qz1 at this;rw[if_neg (by omega)]at this;split at this
  ·assumption
  ·cases this
def cP(p:Nat→Bool):Nat→Nat
 |0=>0
 |i+1=>cP p i+if p i=true then 1 else 0
theorem qj9(p:Nat→Bool): ∀n,cP p n≤n:=by
 intro n
 induction n with
 |zero=>exact Nat.le_refl _
 |succ n ih=>unfold cP;split<;>omega
theorem qwp{p:Nat→Bool}: ∀ {n:Nat},(∀i,i<n→p i=true)→cP p n=n:=by
 intro n
 induction n with
 |zero=>intro _;rfl
 |succ n ih=>intro h;unfold cP;rw[ih fun i hi=>h i (by omega),if_pos (h n (by omega))]
theorem qwr{p:Nat→Bool}: ∀ {n:Nat},(∀i,i+1<n→p (i+1)=true→p i=true)→ ∀i,i<n→(p i=true↔i<cP p n):=by
 intro n
 induction n with
 |zero=>intro _ i h;exact absurd h (Nat.not_lt_zero i)
 |succ n ih=>
  intro hm i hi;have h0:=ih fun j hj=>hm j (by omega)
  unfold cP;cases hn:p n with
  |true=>
   rw[if_pos rfl];have hall: ∀d,d≤n→p (n-d)=true:=by
    intro d
    induction d with
    |zero=>intro _;exact hn
    |succ d ihd=>
     intro hd;refine hm (n-(d+1)) (by omega) ?_;rw[show n-(d+1)+1=n-d by omega];exact ihd (by omega)
   have hp: ∀j,j≤n→p j=true:=fun j hj=>by
    have:=hall (n-j) (by omega)
    rwa [show n-(n-j)=j by omega]at this
   rw[qwp fun j hj=>hp j (by omega),hp i (by omega)];exact⟨fun _=>by omega,fun _=>rfl⟩
  |false=>
   rw[if_neg (by simp),Nat.add_zero]
   by_cases e:i=n
   ·subst e
    have:=qj9 p i
    rw[hn];exact⟨fun h=>absurd h (by simp),fun h=>by omega⟩
   ·exact h0 i (by omega)
theorem qwq{q:Nat→Bool}{F G:Nat}(hFG:F≤G): ∀ {n:Nat},(∀i,i<n→(q i=true↔F≤i∧i<G))→cP q n=min n G-min n F:=by
 intro n
 induction n with
 |zero=>intro _;simp[cP]
 |succ n ih=>
  intro h;unfold cP;rw[ih fun i hi=>h i (by omega)];have hn:=h n (by omega);split
  ·rename_i hq
   have:=hn.1 hq
   omega
  ·rename_i hq
   have: ¬(F≤n∧n<G):=fun hc=>hq (hn.2 hc)
   omega
theorem qtr{q:Nat→Bool}{F G n:Nat}(hGn:G≤n)(h: ∀i,i<n→(q i=true↔F≤i∧i<G)):qag q n 0=if F<G then (F:Int) else-1:=by
 split
 ·rename_i hl;exact jv (by omega) (fun j hj=>by
   cases hq:q j with
   |false=>rfl
   |true=>have:=(h j (by omega)).1 hq;omega) ((h F (by omega)).2 ⟨Nat.le_refl _,hl⟩)
 ·rename_i hl;refine jV fun j hj=> ?_
  cases hq:q j with
  |false=>rfl
  |true=>have:=(h j hj).1 hq;omega
def qfk(q:Nat→Bool)(n f:Nat):Nat:=nxt (fun i=> !q i) (n-f) f
theorem qjV(q:Nat→Bool){n f:Nat}(hf:f≤n):f≤qfk q n f∧qfk q n f≤n∧(∀j,f≤j→j<qfk q n f→q j=true)∧(qfk q n f<n→q (qfk q n f)=false):=by
 obtain⟨h1,h2,h3,h4⟩:=qdI (fun i=> !q i) (n-f) f;refine⟨h1,by unfold qfk;omega,fun j g1 g2=>by simpa using h3 j g1 g2,fun g=> ?_⟩
 have:=h4 (by unfold qfk at g;omega)
 simpa[qfk] using this
def qu5(q:Nat→Bool)(n f:Nat):Bool:=qY (fun i=>decide (qfk q n f≤i)&&q i) n
def qmK(q:Nat→Bool)(n:Nat):Int:=if qag q n 0<0 then 6 else if qu5 q n (qag q n 0).toNat=true then 10 else 0
def qy6(q:Nat→Bool)(n:Nat):Int:=if qmK q n=0 then qag q n 0 else 0
def qy7(q:Nat→Bool)(n:Nat):Int:=if qmK q n=0 then (qfk q n (qag q n 0).toNat:Int) else 0
def inU(b:List Wd)(k:Int)(i:Nat):Bool:=decide ((b.getD i default).unit=k)
def bfU(b:List Wd)(c:Int)(i:Nat):Bool:=decide ((b.getD i default).col<c)
theorem qhd{x:Co}{l:List Un}{b:List Wd}(h:qu1 x l b){k:Nat}(hk:k<l.length):
  ∃F G,F≤G∧G≤b.length∧(∀i,i<b.length→(bfU b (l.getD k default).frm i=true↔i<F))∧(∀i,i<b.length→(inU b k i=true↔F≤i∧i<G))∧cP (bfU b (l.getD k default).frm) b.length=F∧cP (inU b k) b.length=G-F:=by
 obtain⟨u,hu⟩: ∃u,u=l.getD k default:=⟨_,rfl⟩
 have hur:=(qcJ h.un).rg u (by rw[hu,gdqA,zA hk];exact List.getElem_mem hk);have hpre: ∀c,∀i,i<b.length→(bfU b c i=true↔i<cP (bfU b c) b.length):=fun c=>qwr fun i hi hp=>by
  have:=h.ord i hi
  unfold bfU at hp ⊢;rw[decide_eq_true_iff]at hp ⊢;omega
 have h1:=hpre u.frm;have h2:=hpre u.to;have hq: ∀i,i<b.length→(inU b k i=true↔cP (bfU b u.frm) b.length≤i∧i<cP (bfU b u.to) b.length):=fun i hi=>by
  have g1:=h1 i hi;have g2:=h2 i hi;unfold bfU at g1 g2;rw[decide_eq_true_iff]at g1 g2;unfold inU;rw[decide_eq_true_iff];constructor
  ·intro e;obtain⟨_,k2,k3⟩:=qq8 (show fnU l (b.getD i default).col=k by rw[h.un2 i hi,e]);rw[←hu]at k2 k3;exact⟨Nat.le_of_not_lt fun hc=>absurd (g1.2 hc) (by omega),g2.1 k3⟩
  ·rintro⟨e1,e2⟩;have k2:u.frm≤(b.getD i default).col:=Int.not_lt.1 fun hc=>by have:=g1.1 hc;exact absurd this (Nat.not_lt.2 e1)
   have k3:=g2.2 e2;rw[←h.un2 i hi];exact qx6 h.un hk (by rw[←hu];exact k2) (by rw[←hu];exact k3)
 have hle:cP (bfU b u.frm) b.length≤cP (bfU b u.to) b.length:=by
  rcases Nat.lt_or_ge (cP (bfU b u.to) b.length) (cP (bfU b u.frm) b.length)with hlt|hge
  ·have hi:cP (bfU b u.to) b.length<b.length:=by have:=qj9 (bfU b u.frm) b.length;omega
   have g1:=(h1 _ hi).2 hlt;have g2: ¬_:=fun hc=>absurd ((h2 _ hi).1 hc) (Nat.lt_irrefl _)
   unfold bfU at g1 g2;rw[decide_eq_true_iff]at g1 g2;omega
  ·exact hge
 have hGn:=qj9 (bfU b u.to) b.length;refine⟨cP (bfU b u.frm) b.length,cP (bfU b u.to) b.length,hle,hGn,by rw[←hu];exact h1,hq,by rw[←hu],?_⟩;rw[qwq hle hq];omega
structure Va where
 words:List Str
 sigla:List Str
 deriving Inhabited
structure En where
 layer:Int
 frm:Int
 to:Int
 pos:Bool
 sup:List Str
 vars:List Va
 deriving Inhabited
def vaC(v:Va):List AV:= [strs v.words,strs v.sigla]
def qaQ(vs:List Va):AV:= .sl vs.length fun i=>vaC (vs.getD i default)
def enC(e:En):List AV:= [.int .i64 e.layer,.int .i64 e.frm,.int .i64 e.to,.bool e.pos,strs e.sup,qaQ e.vars]
def qbm(l:List En):AV:= .sl l.length fun i=>enC (l.getD i default)
theorem qk1(L:List Va):(qaQ L).flag=true:=rfl
theorem qiF(L:List Va):(qaQ L).strip=qaQ L:=rfl
theorem qoN{fz:Nat→Bool}{h:List AObj}{n:Nat}(L:List Va):frz fz h (n+1) (qaQ L)=qaQ L:=rfl
theorem qpD{fz:Nat→Bool}{h:List AObj}{n:Nat}(L:List Va):rei fz h (n+1) (qaQ L)=qaQ L:=rfl
theorem qkX(L:List En):(qbm L).flag=true:=rfl
theorem qiB(L:List En):(qbm L).strip=qbm L:=rfl
theorem qoK{fz:Nat→Bool}{h:List AObj}{n:Nat}(L:List En):frz fz h (n+1) (qbm L)=qbm L:=rfl
theorem qpA{fz:Nat→Bool}{h:List AObj}{n:Nat}(L:List En):rei fz h (n+1) (qbm L)=qbm L:=rfl
attribute [go_sem] qk1 qiF qoN qpD qkX qiB qoK qpA
theorem qwM(ws:List Str)(m:Nat)(k:Nat→Str)(h:List AObj)(h1:ws.length≤1000000000)(h2:m≤1000000000):
  ACalls Tryz.prog 53 [strs ws,.sl m (fun j=> [.str (k j)])] h (.bool (decide (ws.length=m∧ ∀i,i<ws.length→ws.getD i []=k i))) h:=by
 unfold strs
 have:=qB6 qAD ws.length m (fun j=> .s (ws.getD j [])) (fun j=> .s (k j)) h (fun _ _ _=>rfl) (by omega) (by omega)
 simpa only[At.v,At.s.injEq] using this
theorem qBg(ws:List Str)(m:Nat)(k:Nat→Str)(h:List AObj)(h1:ws.length≤1000000000)(h2:m≤1000000000):
  ACalls Tryz.prog 139 [strs ws,.sl m (fun j=> [.str (k j)])] h (.bool (decide (ws.length=m∧ ∀i,i<ws.length→ws.getD i []=k i))) h:=by
 have c22:=fun h=>qwM ws m k h h1 h2
 refine acO qw0 ?_;simp (disch:=omega) only[qvw,go_sem]
 repeat' first
  |(refine cA (c22 _) ?_ ?_;exact flk;simp (disch:=omega) only[go_sem])
  |(apply qf;exact rvk;simp only[go_sem];exact qj)
theorem je{α:Type}[Inhabited α]{a b:List α}(d:α):a=b↔a.length=b.length∧ ∀i,i<a.length→a.getD i d=b.getD i d:=by
 constructor
 ·rintro rfl;exact⟨rfl,fun _ _=>rfl⟩
 ·rintro⟨h1,h2⟩;apply List.ext_getElem h1;intro i h3 h4
  have:=h2 i h3
  rw[gdqA,gdqA,zA h3,zA h4]at this;exact this
def qci(t:List Str)(f g:Nat):List Str:=(t.drop f).take (g-f)
theorem qhf{t:List Str}{f g:Nat}(h1:f≤g)(h2:g≤t.length):(qci t f g).length=g-f:=by unfold qci;simp;omega
def qqk(t:List Str)(e:En)(i:Nat):Int:=
 if qny (e.vars.getD i default).words≠0 then 11 else if (e.vars.getD i default).words=qci t e.frm.toNat e.to.toNat then 9 else
  if qY (fun j=>decide ((e.vars.getD i default).words=(e.vars.getD j default).words)) i=true then 7 else if (e.vars.getD i default).sigla.length=0 then 5 else 0
def cnt(names:List Str)(gs:List Gr)(e:En):Nat→List Int
 |0=>qqw (List.replicate 32 0) (qdb names gs e.sup)
 |i+1=>qqw (cnt names gs e i) (qdb names gs (e.vars.getD i default).sigla)
def quy(C:List Int):Bool:=qY (fun i=>decide (1<C.getD i 0)) C.length
def qvb(t:List Str)(e:En):Prop:=e.layer<0∨16≤e.layer∨e.frm<0∨e.to<e.frm∨(t.length:Int)<e.to
instance (t:List Str) (e:En):Decidable (qvb t e):=by unfold qvb;infer_instance
def qAl(names:List Str)(gs:List Gr)(t:List Str)(e:En):Int:=
 if sgE names gs≠0 then 1 else if 4096<t.length then 4 else if qny t≠0 then 11 else if qvb t e then 2 else
  if 0<e.sup.length∧e.pos=false then 1 else if e.vars.length=0 then 5 else
   if qa5 (qqk t e) 0 e.vars.length≠0 then qa5 (qqk t e) 0 e.vars.length else
    if qkP names gs e.sup≠0 then qkP names gs e.sup else
     if qa5 (fun i=>qkP names gs (e.vars.getD i default).sigla) 0 e.vars.length≠0 then qa5 (fun i=>qkP names gs (e.vars.getD i default).sigla) 0 e.vars.length else
      if quy (cnt names gs e e.vars.length)=true then 17 else 0
def tC(gs:List Gr)(i:Nat):List AV:=(List.range i).map fun j=> .str (gs.getD j default).name
theorem quu(gs:List Gr)(i:Nat):tC gs (i+1)=tC gs i++ [.str (gs.getD i default).name]:=by unfold tC;rw[List.range_succ,List.map_append];rfl
theorem qrw(gs:List Gr)(i:Nat):(tC gs i).length=i:=by simp[tC]
theorem qBn{gs:List Gr}{n j:Nat}(h:j<n):((tC gs n).drop j).take 1= [.str (gs.getD j default).name]:=by
 rw[List.drop_eq_getElem_cons (by rw[qrw];exact h),List.take_succ_cons,List.take_zero];simp[tC]
set_option maxHeartbeats 2000000 in
theorem qDC(n:Nat)(gs:List Gr)(h:List AObj)(hn:n≤1000000000):ACalls Tryz.prog 167 [.sl n fun j=>grC (gs.getD j default)] h (.sl n fun j=> [.str (gs.getD j default).name]) h:=by
 refine acO qw9 ?_;simp (disch:=omega) only[qvE,go_sem];have eM:qS [AV.str []] 0=tC gs 0:=rfl;rw[eM];refine qm (T:=fun i:Nat×Nat×Nat=>qI 21 [(0,.sl n fun j=>grC (gs.getD j default)),(3,.osl (h.length+1) i.2.1 1 0 i.1),(4,.int .i64 i.1)]) (H:=fun i=>h++ [.emp 1,AObj.mem i.2.1 9 (tC gs i.1),.emp i.2.2,.emp 0])
  (inv:=fun i=>i.1≤n) (m:=fun i=>n-i.1) (0,1,0) (Nat.zero_le _) (Wk.temps ?_) ?_
 ·(simp only[go_sem,qh,qd,qa,qg];try (repeat' first|(with_reducible apply aiA)|(apply qi;omega)|(apply qe;rfl)|exact qj))
 rintro⟨i,v,w⟩ i1 K hK;simp only at i1 hK;have hst:=quu gs i;have hln:=qrw gs i;obtain⟨L,hL⟩: ∃L,L=tC gs i:=⟨_,rfl⟩
 rw[←hL]at hst hln;have eL:=hL.symm
 by_cases hi:i<n
 ·have k1:((i:Int)<n)=True:=eq_true (by omega);obtain⟨g,hg⟩: ∃g,g=gs.getD i default:=⟨_,rfl⟩
  have eg:=hg.symm;rw[eg]at hst;have eT:List.take i L=L:=List.take_of_length_le (by omega);simp (disch:=omega) only[grC,k1,eL,eg,Nat.mul_one,go_sem]
  repeat' first
   |with_reducible apply aiA
  all_goals try exact clz
  rw[eT,←hst];refine hK _ _ (i+1,v+1,w+1+1) hi (by simp only;omega) (Wk.trans Wk.kill2 ?_);refine Wk.temps ?_
  (simp only[go_sem,qh,qd,qa,qg];try (repeat' first|(with_reducible apply aiA)|(apply qi;omega)|(apply qe;rfl)|exact qj))
 ·have k1:((i:Int)<n)=False:=eq_false (by omega);obtain rfl:i=n:=by omega
  simp (disch:=omega) only[k1,eL,go_sem]
  repeat' first
   |(apply qb;exact rvk;simp only[go_sem])
  rw[if_pos (by omega)];refine VLe.sl_eq rfl (fun j hj=> ?_);rw[hL,qBn hj];rfl
theorem qln(p:Nat→Bool)(n:Nat):(qY p n=true∧ ∃k:Int,0≤k∧qag p n 0=k)∨(qY p n=false∧qag p n 0= -1):=by
 rcases zd p n with⟨i,h1,h2,_,h4⟩|⟨h1,h2⟩
 ·exact .inl ⟨qv.2 ⟨i,h1,h2⟩,_,by omega,h4⟩
 ·exact .inr ⟨qn.2 h1,h2⟩
set_option maxHeartbeats 4000000 in
theorem sgR(names:List Str)(gs:List Gr)(h:List AObj)(hz:Szs names gs):ACalls Tryz.prog 98 [strs names,qF gs] h (.int .i64 (sgE names gs)) h:=by
 obtain⟨z1,z2,z3,z4,z5⟩:=hz;obtain⟨R,hR⟩: ∃R,R=sgE names gs:=⟨_,rfl⟩
 rw[←hR];unfold sgE at hR
 by_cases g0:32<names.length
 ·have k0:((32:Int)<names.length)=True:=eq_true (by omega);rw[if_pos g0]at hR;rw[hR];refine acO qx5 ?_;simp (disch:=omega) only[qAh,strs,qF,k0,go_sem]
  repeat' first
   |(apply qf;exact rvk;simp only[go_sem];exact qj)
 have k0:((32:Int)<names.length)=False:=eq_false (by omega);rw[if_neg g0]at hR;refine acO qx5 ?_;simp (disch:=omega) only[qAh,strs,qF,k0,go_sem];refine qm (T:=fun i:Nat=>qI 87 [(0,strs names),(1,qF gs),(5,.int .i64 i)]) (H:=fun _=>h) (inv:=fun i=>i≤names.length∧ ∀j,j<i→zO names j=0) (m:=fun i=>names.length-i) 0 ⟨Nat.zero_le _,fun j hj=>by omega⟩ (Wk.temps ?_) ?_
 ·(simp only[strs,qF,go_sem,qh,qd,qa,qg];try (repeat' first|(with_reducible apply aiA)|(apply qi;omega)|(apply qe;rfl)|exact qj))
 rintro i ⟨i1,i2⟩ K hK
 by_cases hi:i<names.length
 ·have k1:((i:Int)<names.length)=True:=eq_true (by omega);have k2:((i:Int)≤names.length)=True:=eq_true (by omega);have hE:=zr (f:=zO names) hi i2;have hs:zO names i=if qeW (names.getD i [])=false then 14 else if qY (fun j=>decide (names.getD i []=names.getD j [])) i=true then 7 else 0:=rfl
  have c87:=fun h=>qBj (names.getD i []) h (z3 i)
  have c88:=fun h=>qt9 i (fun j=>names.getD j []) (names.getD i []) h (by omega)
  obtain⟨s,hsx⟩: ∃s,s=names.getD i []:=⟨_,rfl⟩
  have es:=hsx.symm;rw[es]at hs c87;simp only[es]at hs c88;cases g1:qeW s with
  |false=>
   rw[g1]at c87;rw[if_pos g1]at hs;have hV:R=14:=by rw[hR,hE (by rw[hs];decide),hs];rfl
   rw[hV];simp (disch:=omega) only[strs,qF,k1,es,go_sem]
   repeat' first
    |(refine cA (c87 _) ?_ ?_;exact flk;simp (disch:=omega) only[k1,k2,es,go_sem])
    |(apply qf;exact rvk;simp only[go_sem];exact qj)
    |with_reducible apply aiA
   all_goals try exact clz
  |true=>
  rw[g1]at c87;rw[if_neg (by rw[g1];simp)]at hs;rcases qln (fun j=>decide (s=names.getD j [])) i with⟨g2,n,hn0,g3⟩|⟨g2,g3⟩
  ·rw[g3]at c88;rw[if_pos g2]at hs;have k3:((0:Int)≤n)=True:=eq_true hn0;have hV:R=7:=by rw[hR,hE (by rw[hs];decide),hs];rfl
   rw[hV];simp (disch:=omega) only[strs,qF,k1,es,go_sem]
   repeat' first
    |((first|refine cA (c87 _) ?_ ?_|refine cA (c88 _) ?_ ?_);exact flk;simp (disch:=omega) only[k1,k2,es,Nat.sub_zero,k3,go_sem])
    |(apply qf;exact rvk;simp only[go_sem];exact qj)
    |with_reducible apply aiA
   all_goals try exact clz
  ·rw[g3]at c88;rw[if_neg (by rw[g2];simp)]at hs;simp (disch:=omega) only[strs,qF,k1,es,go_sem]
   repeat' first
    |((first|refine cA (c87 _) ?_ ?_|refine cA (c88 _) ?_ ?_);exact flk;simp (disch:=omega) only[k1,k2,es,Nat.sub_zero,go_sem])
    |(apply qf;exact rvk;simp only[go_sem];apply qi)
    |with_reducible first|intro _|apply aiA
   all_goals try exact clz
   refine hK _ _ (i+1) ⟨hi,fun j hj=> ?_⟩ (by omega) (Wk.temps ?_)
   ·by_cases e:j=i
    ·subst e;exact hs
    ·exact i2 j (by omega)
   ·(simp only[strs,qF,go_sem,qh,qd,qa,qg];try (repeat' first|(with_reducible apply aiA)|(apply qi;omega)|(apply qe;rfl)|exact qj))
 have k1:((i:Int)<names.length)=False:=eq_false (by omega);have hn0:=qP (f:=zO names) (fun j (hj:j<names.length)=>i2 j (by omega));rw[if_neg (fun hc=>hc hn0)]at hR
 by_cases g1:16<gs.length
 ·have k2:((16:Int)<gs.length)=True:=eq_true (by omega);rw[if_pos g1]at hR;rw[hR];simp (disch:=omega) only[strs,qF,k1,k2,go_sem]
  repeat' first
   |(apply qf;exact rvk;simp only[go_sem];exact qj)
 have k2:((16:Int)<gs.length)=False:=eq_false (by omega);rw[if_neg g1]at hR;simp (disch:=omega) only[strs,qF,k1,k2,go_sem];refine qm (T:=fun i:Nat=>qI 87 [(0,strs names),(1,qF gs),(6,.int .i64 i)]) (H:=fun i=>h) (inv:=fun i=>i≤gs.length∧ ∀j,j<i→qdC names gs j=0) (m:=fun i=>gs.length-i) 0 ⟨Nat.zero_le _,fun j hj=>absurd hj (Nat.not_lt_zero j)⟩ (Wk.temps ?_) ?_
 ·(simp only[strs,qF,go_sem,qh,qd,qa,qg];try (repeat' first|(with_reducible apply aiA)|(apply qi;omega)|(apply qe;rfl)|exact qj))
 rintro i ⟨i1,i2⟩ K hK
 by_cases hi:i<gs.length
 ·have k3:((i:Int)<gs.length)=True:=eq_true (by omega);have k4:((i:Int)≤gs.length)=True:=eq_true (by omega);have hE:=zr (f:=qdC names gs) hi i2;have hs:qdC names gs i=if jk (gs.getD i default).name=false then 14 else if qY (fun j=>decide ((gs.getD i default).name=names.getD j [])) names.length=true then 7 else
   if qY (fun j=>decide ((gs.getD i default).name=(gs.getD j default).name)) i=true then 7 else if (gs.getD i default).mem.length=0 then 5 else qcW names.length (gs.getD i default).mem:=rfl
  have z4i:=z4 i;have z5i:=z5 i;obtain⟨g,hg⟩: ∃g,g=gs.getD i default:=⟨_,rfl⟩
  have eg:=hg.symm;simp only[eg]at hs z4i z5i;have c89:=fun h=>t53 g.name h z4i
  have c88:=fun h=>qt9 names.length (fun j=>names.getD j []) g.name h z1
  have c90:=fun h=>qDC i gs h (by omega)
  have c91:=fun h=>qt9 i (fun j=>(gs.getD j default).name) g.name h (by omega)
  have c92:=fun h=>qCm g.mem names.length h z5i
  cases g2:jk g.name with
  |false=>
   rw[g2]at c89;rw[if_pos g2]at hs;have hV:R=14:=by rw[hR,hE (by rw[hs];decide),hs]
   rw[hV];simp (disch:=omega) only[strs,qF,grC,ql,k3,eg,go_sem]
   repeat' first
    |(refine cA (c89 _) ?_ ?_;exact flk;simp (disch:=omega) only[k3,eg,go_sem])
    |(apply qf;exact rvk;simp only[go_sem];exact qj)
    |with_reducible apply aiA
   all_goals try exact clz
  |true=>
  rw[g2]at c89;rw[if_neg (by rw[g2];simp)]at hs;rcases qln (fun j=>decide (g.name=names.getD j [])) names.length with⟨g3,n,hn0,g3'⟩|⟨g3,g3'⟩
  ·rw[g3']at c88;rw[if_pos g3]at hs;have k5:((0:Int)≤n)=True:=eq_true hn0;have hV:R=7:=by rw[hR,hE (by rw[hs];decide),hs]
   rw[hV];simp (disch:=omega) only[strs,qF,grC,ql,k3,eg,go_sem]
   repeat' first
    |(refine qk ( .nl) ?_;simp (disch:=omega) only[k3,eg,go_sem])
    |((first|refine cA (c89 _) ?_ ?_|refine cA (c88 _) ?_ ?_);exact flk;simp (disch:=omega) only[k3,k4,eg,k5,go_sem])
    |(apply qf;exact rvk;simp only[go_sem];exact qj)
    |with_reducible apply aiA
   all_goals try exact clz
  rw[g3']at c88;rw[if_neg (by rw[g3];simp)]at hs;rcases qln (fun j=>decide (g.name=(gs.getD j default).name)) i with⟨g4,n,hn0,g4'⟩|⟨g4,g4'⟩
  ·rw[g4']at c91;rw[if_pos g4]at hs;have k5:((0:Int)≤n)=True:=eq_true hn0;have hV:R=7:=by rw[hR,hE (by rw[hs];decide),hs]
   rw[hV];simp only[grC,ql]at c90;simp (disch:=omega) only[strs,qF,grC,ql,k3,eg,go_sem]
   repeat' first
    |((first|refine cA (c89 _) ?_ ?_|refine cA (c88 _) ?_ ?_|refine cG (fun e=>c90 _) ?_ ?_|refine cG (fun e=>c91 _) ?_ ?_);exact flk;simp (disch:=omega) only[k3,k4,eg,Nat.sub_zero,k5,go_sem])
    |(apply qf;exact rvk;simp only[go_sem];first|exact qj|apply qi)
    |with_reducible first|intro _|apply aiA
   all_goals try exact clz
  rw[g4']at c91;rw[if_neg (by rw[g4];simp)]at hs;simp only[grC,ql]at c90
  by_cases g5:g.mem.length=0
  ·have k5:((g.mem.length:Int)=0)=True:=eq_true (by omega);rw[if_pos g5]at hs;have hV:R=5:=by rw[hR,hE (by rw[hs];decide),hs]
   rw[hV];simp (disch:=omega) only[strs,qF,grC,ql,k3,eg,go_sem]
   repeat' first
    |((first|refine cA (c89 _) ?_ ?_|refine cA (c88 _) ?_ ?_|refine cG (fun e=>c90 _) ?_ ?_|refine cG (fun e=>c91 _) ?_ ?_);exact flk;simp (disch:=omega) only[k3,k4,eg,Nat.sub_zero,k5,go_sem])
    |(apply qf;exact rvk;simp only[go_sem];first|exact qj|apply qi)
    |with_reducible first|intro _|apply aiA
   all_goals try exact clz
  have k5:((g.mem.length:Int)=0)=False:=eq_false (by omega);rw[if_neg g5]at hs;unfold ql at c92;obtain⟨e,he⟩: ∃e,e=qcW names.length g.mem:=⟨_,rfl⟩
  rw[←he]at c92 hs
  by_cases g6:e=0
  ·have k6:(e=0)=True:=eq_true g6;simp (disch:=omega) only[strs,qF,grC,ql,k3,eg,go_sem]
   repeat' first
    |((first|refine cA (c89 _) ?_ ?_|refine cA (c88 _) ?_ ?_|refine cG (fun e=>c90 _) ?_ ?_|refine cG (fun e=>c91 _) ?_ ?_|refine cA (c92 _) ?_ ?_);exact flk;simp (disch:=omega) only[k3,k4,eg,Nat.sub_zero,k5,k6,go_sem])
    |(apply qf;exact rvk;simp only[go_sem];apply qi)
    |with_reducible first|intro _|apply aiA
   all_goals try exact clz
   refine hK _ _ (i+1) ⟨hi,fun j hj=> ?_⟩ (by omega) (Wk.temps ?_)
   ·by_cases e':j=i
    ·subst e';rw[hs,g6]
    ·exact i2 j (by omega)
   ·(simp only[strs,qF,go_sem,qh,qd,qa,qg];try (repeat' first|(with_reducible apply aiA)|(apply qi;omega)|(apply qe;rfl)|exact qj))
  ·have k6:(e=0)=False:=eq_false g6;have hV:R=e:=by rw[hR,hE (by rw[hs];exact g6),hs]
   rw[hV];simp (disch:=omega) only[strs,qF,grC,ql,k3,eg,go_sem]
   repeat' first
    |((first|refine cA (c89 _) ?_ ?_|refine cA (c88 _) ?_ ?_|refine cG (fun e=>c90 _) ?_ ?_|refine cG (fun e=>c91 _) ?_ ?_|refine cA (c92 _) ?_ ?_);exact flk;simp (disch:=omega) only[k3,k4,eg,Nat.sub_zero,k5,k6,go_sem])
    |(apply qf;exact rvk;simp only[go_sem];first|exact qj|apply qi)
    |with_reducible first|intro _|apply aiA
   all_goals try exact clz
 ·have k3:((i:Int)<gs.length)=False:=eq_false (by omega);rw[qP (fun j (hj:j<gs.length)=>i2 j (by omega))]at hR;rw[hR];simp (disch:=omega) only[strs,qF,k3,go_sem]
  repeat' first
   |(apply qf;exact rvk;simp only[go_sem];exact qj)
theorem qyl(l:List Int)(x:Int)(h:List AObj)(hn:l.length≤1000000000):ACalls Tryz.prog 200 [ql l,.int .i64 x] h (.bool (decide (x∈l))) h:=by
 have hmem: ∀i,i<l.length→(∀j,j<i→l.getD j 0≠x)→l.getD i 0=x→decide (x∈l)=true:=fun i hi _ e=>by
  refine decide_eq_true ?_;rw[←e,gdqA,zA hi];exact List.getElem_mem hi
 have hno:(∀j,j<l.length→l.getD j 0≠x)→decide (x∈l)=false:=fun hh=>by
  refine decide_eq_false fun hm=> ?_
  obtain⟨i,hi,e⟩:=List.getElem_of_mem hm;refine hh i hi ?_;rw[gdqA,zA hi];exact e
 obtain⟨R,hR⟩: ∃R,R=decide (x∈l):=⟨_,rfl⟩
 rw[←hR]at hmem hno ⊢;refine acO qxm ?_;simp (disch:=omega) only[qvQ,ql,go_sem];refine qm (T:=fun i:Nat=>qI 18 [(0,ql l),(1,.int .i64 x),(5,.int .i64 i)]) (H:=fun _=>h) (inv:=fun i=>i≤l.length∧ ∀j,j<i→l.getD j 0≠x) (m:=fun i=>l.length-i) 0 ⟨Nat.zero_le _,fun j hj=>by omega⟩ (Wk.temps ?_) ?_
 ·(simp only[ql,go_sem,qh,qd,qa,qg];try (repeat' first|(with_reducible apply aiA)|(apply qi;omega)|(apply qe;rfl)|exact qj))
 rintro i ⟨i1,i2⟩ K hK
 by_cases hi:i<l.length
 ·have k1:((i:Int)<l.length)=True:=eq_true (by omega);have hm:=hmem i hi i2;obtain⟨v,hv⟩: ∃v,v=l.getD i 0:=⟨_,rfl⟩
  have ev:=hv.symm;rw[ev]at hm
  by_cases g0:v=x
  ·have k2:(v=x)=True:=eq_true g0;rw[hm g0];simp (disch:=omega) only[ql,k1,k2,ev,go_sem]
   repeat' first
    |(apply qf;exact rvk;simp only[go_sem];exact qj)
    |with_reducible apply aiA
   all_goals try exact clz
  ·have k2:(v=x)=False:=eq_false g0;simp (disch:=omega) only[ql,k1,k2,ev,go_sem]
   repeat' first
    |with_reducible apply aiA
   all_goals try exact clz
   refine hK _ _ (i+1) ⟨hi,fun j hj=> ?_⟩ (by omega) (Wk.temps ?_)
   ·by_cases e:j=i
    ·subst e;rw[ev];exact g0
    ·exact i2 j (by omega)
   ·(simp only[ql,go_sem,qh,qd,qa,qg];try (repeat' first|(with_reducible apply aiA)|(apply qi;omega)|(apply qe;rfl)|exact qj))
 ·have k1:((i:Int)<l.length)=False:=eq_false (by omega);rw[hno (fun j hj=>i2 j (by omega))];simp (disch:=omega) only[ql,k1,go_sem]
  repeat' first
   |(apply qf;exact rvk;simp only[go_sem];exact qj)
theorem qbt{p q:Nat→Bool}{n:Nat}(h: ∀k,k<n→p k=q k):zZ p n=zZ q n:=by
 unfold zZ;congr 1;refine List.filter_congr fun k hk=>h k (List.mem_range.1 hk)
theorem qo2{p:Nat→Bool}{n:Nat}: ∀m,n≤m→(∀k,n≤k→k<m→p k=false)→zZ p m=zZ p n:=by
 intro m
 induction m with
 |zero=>
  intro h _
  have:n=0:=by omega
  subst this;rfl
 |succ m ih=>
  intro h1 h2
  by_cases e:n=m+1
  ·subst e;rfl
  ·rw[kM,h2 m (by omega) (by omega),if_neg (by simp),List.append_nil,ih (by omega) (fun k a b=>h2 k a (by omega))]
theorem qgS{p:Nat→Bool}{n:Nat}{x:Int}:x∈zZ p n↔ ∃k:Nat,k<n∧p k=true∧x=k:=by
 unfold zZ;constructor
 ·intro h;obtain⟨k,hk,rfl⟩:=List.mem_map.1 h;obtain⟨h1,h2⟩:=List.mem_filter.1 hk;exact⟨k,List.mem_range.1 h1,h2,rfl⟩
 ·rintro⟨k,h1,h2,rfl⟩;exact List.mem_map.2 ⟨k,List.mem_filter.2 ⟨List.mem_range.2 h1,h2⟩,rfl⟩
theorem smw(ws:List Str)(m:Nat)(k:Nat→Str)(h:List AObj)(h1:ws.length≤1000000000)(h2:m≤1000000000):
  ACalls Tryz.prog 103 [strs ws,.sl m (fun j=> [.str (k j)])] h (.bool (decide (ws.length=m∧ ∀i,i<ws.length→ws.getD i []=k i))) h:=by
 obtain⟨R,hR⟩: ∃R,R=decide (ws.length=m∧ ∀i,i<ws.length→ws.getD i []=k i):=⟨_,rfl⟩
 rw[←hR]
 by_cases g:ws.length=m
 ·have k0:((ws.length:Int)=m)=True:=eq_true (by omega);refine acO qqF ?_;simp (disch:=omega) only[qrS,strs,k0,go_sem];refine qm (T:=fun i:Nat=>qI 26 [(0,strs ws),(1,.sl m (fun j=> [.str (k j)])),(5,.int .i64 i)]) (H:=fun _=>h) (inv:=fun i=>i≤ws.length∧ ∀j,j<i→ws.getD j []=k j) (m:=fun i=>ws.length-i) 0 ⟨Nat.zero_le _,fun j hj=>by omega⟩ (Wk.temps ?_) ?_
  ·(simp only[strs,go_sem,qh,qd,qa,qg];try (repeat' first|(with_reducible apply aiA)|(apply qi;omega)|(apply qe;rfl)|exact qj))
  rintro i ⟨i1,i2⟩ K hK
  by_cases hi:i<ws.length
  ·have k1:((i:Int)<ws.length)=True:=eq_true (by omega);have k3:((i:Int)<m)=True:=eq_true (by omega);obtain⟨x,hx⟩: ∃x,x=ws.getD i []:=⟨_,rfl⟩
   have ex:=hx.symm
   by_cases e:x=k i
   ·have k2:(x=k i)=True:=eq_true e;simp (disch:=omega) only[strs,k1,k2,k3,ex,go_sem]
    repeat' first
     |with_reducible apply aiA
    all_goals try exact clz
    refine hK _ _ (i+1) ⟨hi,fun j hj=> ?_⟩ (by omega) (Wk.temps ?_)
    ·by_cases e':j=i
     ·subst e';rw[ex];exact e
     ·exact i2 j (by omega)
    ·(simp only[strs,go_sem,qh,qd,qa,qg];try (repeat' first|(with_reducible apply aiA)|(apply qi;omega)|(apply qe;rfl)|exact qj))
   ·have k2:(x=k i)=False:=eq_false e;have hV:R=false:=by rw[hR];exact decide_eq_false fun hc=>e (by rw[←ex];exact hc.2 i hi)
    rw[hV];simp (disch:=omega) only[strs,k1,k2,k3,ex,go_sem]
    repeat' first
     |(apply qf;exact rvk;simp only[go_sem];exact qj)
     |with_reducible apply aiA
    all_goals try exact clz
  ·have k1:((i:Int)<ws.length)=False:=eq_false (by omega);have hV:R=true:=by rw[hR];exact decide_eq_true ⟨g,fun j hj=>i2 j (by omega)⟩
   rw[hV];simp (disch:=omega) only[strs,k1,go_sem]
   repeat' first
    |(apply qf;exact rvk;simp only[go_sem];exact qj)
 ·have k0:((ws.length:Int)=m)=False:=eq_false (by omega);have hV:R=false:=by rw[hR];exact decide_eq_false fun hc=>g hc.1
  rw[hV];refine acO qqF ?_;simp (disch:=omega) only[qrS,strs,k0,go_sem]
  repeat' first
   |(apply qf;exact rvk;simp only[go_sem];exact qj)
theorem qvd(a b:List Str)(h:List AObj)(h1:a.length≤1000000000)(h2:b.length≤1000000000):
  ACalls Tryz.prog 103 [strs a,strs b] h (.bool (decide (a=b))) h:=by
 have c:=smw a b.length (fun j=>b.getD j []) h h1 h2;have e:decide (a.length=b.length∧ ∀i,i<a.length→a.getD i []=b.getD i [])=decide (a=b):=decide_eq_decide.2 (je ([]:Str)).symm;rw[e]at c;exact c
def qi2(names:List Str)(gs:List Gr)(e:En):Nat→List Int×Bool
 |0=>(qdb names gs e.sup,false)
 |i+1=>(zZ (fun k=>decide ((k:Int)∈(qi2 names gs e i).1)||decide ((k:Int)∈qdb names gs (e.vars.getD i default).sigla)) 64,(qi2 names gs e i).2||(qi2 names gs e i).1.any fun x=>decide (x∈qdb names gs (e.vars.getD i default).sigla))
theorem qnH(names:List Str)(gs:List Gr)(e:En)(i:Nat):qi2 names gs e (i+1)=(zZ (fun k=>decide ((k:Int)∈(qi2 names gs e i).1)||decide ((k:Int)∈qdb names gs (e.vars.getD i default).sigla)) 64,(qi2 names gs e i).2||(qi2 names gs e i).1.any fun x=>decide (x∈qdb names gs (e.vars.getD i default).sigla)):=rfl
theorem qnW(L:List Int): ∀(C:List Int) (j:Nat),L.Nodup→(∀x∈L,0≤x∧x<C.length)→j<C.length→(qqw C L).getD j 0=C.getD j 0+if (j:Int)∈L then 1 else 0:=by
 induction L with
 |nil=>intro C j _ _ _;simp[qqw]
 |cons n L ih=>
  intro C j hn hL hj;obtain⟨h1,h2⟩:=List.nodup_cons.1 hn;have hb:=hL n (by simp);show (qqw (C.set n.toNat (C.getD n.toNat 0+1)) L).getD j 0=_;rw[ih _ j h2 (fun x hx=>by rw[List.length_set];exact hL x (by simp[hx])) (by rw[List.length_set];exact hj)]
  by_cases e:(j:Int)=n
  ·have e2:n.toNat=j:=by omega
   have e3: ¬(j:Int)∈L:=by rw[e];exact h1
   rw[if_neg e3,if_pos (by rw[e];simp),e2]
   have:(C.set j (C.getD j 0+1)).getD j 0=C.getD j 0+1:=by
    rw[gdqA,List.getElem?_set_self hj];rfl
   rw[this];omega
  ·have e2: ¬n.toNat=j:=by omega
   have:(C.set n.toNat (C.getD n.toNat 0+1)).getD j 0=C.getD j 0:=by
    rw[gdqA,List.getElem?_set_ne e2,←gdqA]
   rw[this];congr 1;simp[e]
theorem qh0(p:Nat→Bool)(n:Nat):(zZ p n).Nodup:=by
 unfold zZ;rw[List.Nodup,List.pairwise_map];refine List.Pairwise.imp ?_ (List.Pairwise.filter _ List.nodup_range);intro a b hab hc;exact hab (by have hx:(a:Int)=(b:Int):=hc;omega)
theorem qdc(names:List Str)(gs:List Gr)(sg:List Str):(qdb names gs sg).Nodup:=by
 unfold qdb;split
 ·exact qh0 _ _
 ·exact List.nodup_nil
structure qzW (A:List Int) (B:Bool) (C:List Int):Prop where
 len:C.length=32
 rng: ∀x∈A,0≤x∧x<32
 mem: ∀k:Nat,k<32→((k:Int)∈A↔1≤C.getD k 0)
 nn: ∀k:Nat,k<32→0≤C.getD k 0
 tw:B=true↔ ∃k:Nat,k<32∧1<C.getD k 0
theorem qgP{A O A' C:List Int}{B:Bool}(h:qzW A B C)(ho:O.Nodup)(hr: ∀x∈O,0≤x∧x<32)(hA: ∀x,x∈A'↔x∈A∨x∈O):qzW A' (B||A.any fun x=>decide (x∈O)) (qqw C O):=by
 have hl:=h.len;have hg:=fun (k:Nat) (hk:k<32)=>qnW O C k ho (fun x hx=>by have:=hr x hx;omega) (by omega)
 refine⟨by rw[qnX,hl],fun x hx=> ?_,fun k hk=> ?_,fun k hk=> ?_,?_⟩
 ·rcases (hA x).1 hx with hx|hx
  ·exact h.rng x hx
  ·exact hr x hx
 ·rw[hA,h.mem k hk,hg k hk]
  have:=h.nn k hk
  by_cases e:(k:Int)∈O
  ·rw[if_pos e];exact⟨fun _=>by omega,fun _=> .inr e⟩
  ·rw[if_neg e];constructor
   ·rintro (h1|h1)
    ·omega
    ·exact absurd h1 e
   ·intro h1;exact .inl (by omega)
 ·rw[hg k hk]
  have:=h.nn k hk
  split<;>omega
 ·rw[Bool.or_eq_true,h.tw,List.any_eq_true];constructor
  ·rintro (⟨k,hk,h1⟩|⟨x,hx,h1⟩)
   ·refine⟨k,hk,?_⟩;rw[hg k hk];split<;>omega
   ·have h1:=of_decide_eq_true h1;have hx2:=h.rng x hx;have e:((x.toNat:Nat):Int)=x:=by omega
    refine⟨x.toNat,by omega,?_⟩;rw[hg _ (by omega),e,if_pos h1]
    have:=(h.mem x.toNat (by omega)).1 (by rw[e];exact hx)
    omega
  ·rintro⟨k,hk,h1⟩;rw[hg k hk]at h1
   by_cases e:(k:Int)∈O
   ·rw[if_pos e]at h1;exact .inr ⟨(k:Int),(h.mem k hk).2 (by omega),decide_eq_true e⟩
   ·rw[if_neg e]at h1;exact .inl ⟨k,hk,by omega⟩
theorem qtx:qzW [] false (List.replicate 32 0):=by
 have g: ∀k:Nat,k<32→(List.replicate 32 (0:Int)).getD k 0=0:=fun k hk=>by
  rw[gdqA,List.getElem?_replicate,if_pos hk];rfl
 refine⟨by simp,fun x hx=>by simp at hx,fun k hk=> ?_,fun k hk=> ?_,?_⟩
 ·rw[g k hk];simp
 ·rw[g k hk];omega
 ·constructor
  ·intro h;cases h
  ·rintro⟨k,hk,h1⟩;rw[g k hk]at h1;omega
theorem qrD(names:List Str)(gs:List Gr)(e:En): ∀i,qzW (qi2 names gs e i).1 (qi2 names gs e i).2 (cnt names gs e i):=by
 have hO:=fun sg=>qaa (@qov names gs sg)
 intro i
 induction i with
 |zero=>
  have:=qgP (A':=qdb names gs e.sup) qtx (qdc names gs e.sup) (hO e.sup) (fun x=>by simp)
  exact this
 |succ i ih=>
  rw[qnH];unfold cnt;refine qgP ih (qdc _ _ _) (hO _) (fun x=> ?_);rw[qgS];constructor
  ·rintro⟨k,hk,h1,rfl⟩;simpa using h1
  ·intro hx;have hb:0≤x∧x<32:=by
    rcases hx with hx|hx
    ·exact ih.rng x hx
    ·exact hO _ x hx
   have e:((x.toNat:Nat):Int)=x:=by omega
   refine⟨x.toNat,by omega,?_,e.symm⟩;simp only[e];simpa using hx
theorem qeb(names:List Str)(gs:List Gr)(e:En)(i:Nat):quy (cnt names gs e i)=(qi2 names gs e i).2:=by
 have h:=qrD names gs e i;unfold quy;rw[h.len,Bool.eq_iff_iff,h.tw,qv];simp only[decide_eq_true_eq]
def inV(names:List Str)(gs:List Gr)(e:En)(src:Int)(i:Nat):Bool:=decide (src∈qdb names gs (e.vars.getD i default).sigla)
def vIx(names:List Str)(gs:List Gr)(e:En)(src:Int):Int:=qag (inV names gs e src) e.vars.length 0
def qgq(a b:En):Bool:=decide (a.frm<b.frm)||decide (a.frm=b.frm)&&decide (a.to<b.to)
end RC
end
section
open Go Go.Proofs AF
def qtv:List Nat:= [132,109,174,220,68]
def qvM:C:=
 ((C.ops [MC 2 (.bool false)]).seq ((C.ops [MV 3 0,MV 4 0,BI 5 .neq 3 4,MV 2 5]).seq
 C.ret))
theorem qxi:qG Tryz.prog 195 6 0 [RV.tmp 2] qvM:=fi Tryz.f195 [] qtv []
end
section
open Go Go.Proofs AF HY LN
namespace RC
def qfr(a b:Int):Int:=if a<b then-1 else if b<a then 1 else 0
theorem qCi(a:Int)(h:List AObj):ACalls Tryz.prog 195 [.int .i64 a] h (.bool false) h:=by
 have k:(a=a)=True:=eq_true rfl;refine acO qxi ?_;simp (disch:=omega) only[qvM,go_sem]
 repeat' first
  |(apply qf;exact rvk;simp only[go_sem];exact qj)
theorem qCL(a b:Int)(h:List AObj):ACalls Tryz.prog 141 [.int .i64 a,.int .i64 b] h (.int .i64 (qfr a b)) h:=by
 have c1:=fun h=>qCi a h
 have c2:=fun h=>qCi b h
 unfold qfr
 by_cases g1:a<b
 ·have k1:(a<b)=True:=eq_true g1;rw[if_pos g1];refine acO qk4 ?_;simp (disch:=omega) only[qnY,go_sem]
  repeat' first
   |((first|refine cA (c1 _) ?_ ?_|refine cA (c2 _) ?_ ?_);exact flk;simp (disch:=omega) only[k1,go_sem])
   |(apply qf;exact rvk;simp only[go_sem];exact qj)
 have k1:(a<b)=False:=eq_false g1;rw[if_neg g1]
 by_cases g2:b<a
 ·have k2:(b<a)=True:=eq_true g2;rw[if_pos g2];refine acO qk4 ?_;simp (disch:=omega) only[qnY,go_sem]
  repeat' first
   |((first|refine cA (c1 _) ?_ ?_|refine cA (c2 _) ?_ ?_);exact flk;simp (disch:=omega) only[k1,k2,go_sem])
   |(apply qf;exact rvk;simp only[go_sem];exact qj)
 ·have k2:(b<a)=False:=eq_false g2;rw[if_neg g2];refine acO qk4 ?_;simp (disch:=omega) only[qnY,go_sem]
  repeat' first
   |((first|refine cA (c1 _) ?_ ?_|refine cA (c2 _) ?_ ?_);exact flk;simp (disch:=omega) only[k1,k2,go_sem])
   |(apply qf;exact rvk;simp only[go_sem];exact qj)
end RC
end
section
namespace RC
variable {α : Type}
def qcQ(lt:α→α→Bool)(x:α):List α→List α
 | []=> [x]
 |y::r=>if lt x y=true then y::qcQ lt x r else x::y::r
def qeY(lt:α→α→Bool):List α→List α→List α
 |acc,[]=>acc
 |acc,x::r=>qeY lt (qcQ lt x acc) r
def qvg(lt:α→α→Bool):Prop:= ∀a b c,lt a b=false→lt b c=false→lt a c=false
def Asy(lt:α→α→Bool):Prop:= ∀a b,lt a b=true→lt b a=false
def qu4(lt:α→α→Bool)(l:List α):Prop:=l.Pairwise fun a b=>lt a b=false
theorem qoW{lt:α→α→Bool}{x:α}: ∀ {l:List α} {z:α},z∈qcQ lt x l↔z=x∨z∈l:=by
 intro l
 induction l with
 |nil=>intro z;simp[qcQ]
 |cons y r ih=>
  intro z;unfold qcQ;split
  ·simp only[List.mem_cons,ih];constructor
   ·rintro (h|h|h)
    ·exact .inr (.inl h)
    ·exact .inl h
    ·exact .inr (.inr h)
   ·rintro (h|h|h)
    ·exact .inr (.inl h)
    ·exact .inl h
    ·exact .inr (.inr h)
  ·simp
theorem qcy{lt:α→α→Bool}(hn:qvg lt)(ha:Asy lt){x:α}: ∀ {l:List α},qu4 lt l→qu4 lt (qcQ lt x l):=by
 intro l
 induction l with
 |nil=>intro _;exact List.pairwise_singleton _ _
 |cons y r ih=>
  intro h;obtain⟨h1,h2⟩:=List.pairwise_cons.1 h;unfold qcQ
  by_cases g:lt x y=true
  ·rw[if_pos g];refine List.pairwise_cons.2 ⟨fun z hz=> ?_,ih h2⟩;rcases qoW.1 hz with rfl|hz
   ·exact ha _ _ g
   ·exact h1 z hz
  ·rw[if_neg g];have g:lt x y=false:=by simpa using g
   refine List.pairwise_cons.2 ⟨fun z hz=> ?_,h⟩;rcases List.mem_cons.1 hz with rfl|hz
   ·exact g
   ·exact hn _ _ _ g (h1 z hz)
theorem qli{lt:α→α→Bool}{x:α}{l:List α}(h: ∀z∈l,lt x z=false):qcQ lt x l=x::l:=by
 cases l with
 |nil=>rfl
 |cons y r=>
  unfold qcQ;rw[if_neg (by rw[h y (by simp)];simp)]
theorem qfy{lt:α→α→Bool}(hn:qvg lt)(p:α→Bool)(x:α): ∀ {l:List α},qu4 lt l→(qcQ lt x l).filter p=if p x=true then qcQ lt x (l.filter p) else l.filter p:=by
 intro l
 induction l with
 |nil=>intro _;unfold qcQ;by_cases h:p x=true<;>simp[h,qcQ]
 |cons y r ih=>
  intro h;obtain⟨h1,h2⟩:=List.pairwise_cons.1 h
  by_cases g:lt x y=true
  ·have e:qcQ lt x (y::r)=y::qcQ lt x r:=by rw[qcQ,if_pos g]
   rw[e,List.filter_cons,List.filter_cons,ih h2]
   by_cases hy:p y=true
   ·rw[if_pos hy,if_pos hy]
    by_cases hx:p x=true
    ·rw[if_pos hx,if_pos hx,qcQ,if_pos g]
    ·rw[if_neg hx,if_neg hx]
   ·rw[if_neg hy,if_neg hy]
  ·have e:qcQ lt x (y::r)=x::y::r:=by rw[qcQ,if_neg g]
   have g:lt x y=false:=by simpa using g
   rw[e]
   by_cases hx:p x=true
   ·rw[if_pos hx,List.filter_cons,if_pos hx,qli];intro z hz;rcases List.mem_cons.1 (List.mem_filter.1 hz).1 with rfl|hz
    ·exact g
    ·exact hn _ _ _ g (h1 z hz)
   ·rw[if_neg hx,List.filter_cons,if_neg hx]
theorem qeq{lt:α→α→Bool}(hn:qvg lt)(ha:Asy lt)(p:α→Bool): ∀(l acc:List α),qu4 lt acc→(qeY lt acc l).filter p=qeY lt (acc.filter p) (l.filter p):=by
 intro l
 induction l with
 |nil=>intro acc _;rfl
 |cons x r ih=>
  intro acc h;rw[qeY,ih _ (qcy hn ha h),qfy hn p x h,List.filter_cons]
  by_cases hx:p x=true
  ·rw[if_pos hx,if_pos hx,qeY]
  ·rw[if_neg hx,if_neg hx]
theorem qeZ{lt:α→α→Bool}(hn:qvg lt)(ha:Asy lt): ∀(l acc:List α),qu4 lt acc→qu4 lt (qeY lt acc l):=by
 intro l
 induction l with
 |nil=>intro acc h;exact h
 |cons x r ih=>intro acc h;exact ih _ (qcy hn ha h)
end RC
end
section
namespace RC
variable {α : Type}
end RC
end
section
open Go Go.Proofs AF HY LN
namespace RC
theorem qaY{a b:En}:qgq a b=true↔a.frm<b.frm∨a.frm=b.frm∧a.to<b.to:=by
 unfold qgq;simp[Bool.or_eq_true,Bool.and_eq_true]
theorem qbp{a b:En}:qgq a b=false↔b.frm<a.frm∨a.frm=b.frm∧b.to≤a.to:=by
 have:= @qaY a b
 cases h:qgq a b with
 |true=>rw[h]at this;simp only[true_iff]at this;simp only[Bool.true_eq_false,false_iff];omega
 |false=>rw[h]at this;simp only[Bool.false_eq_true,false_iff]at this;simp only[true_iff];omega
theorem qgs:qvg qgq:=by
 intro a b c h1 h2;rw[qbp]at*;omega
theorem qgr:Asy qgq:=by
 intro a b h;rw[qaY]at h;rw[qbp];omega
def qve(l:List En):List En:=(qeY qgq [] l).reverse
def qC0(names:List Str)(gs:List Gr)(src:Int)(e:En):Bool:=decide (0≤vIx names gs e src)
def ofE(names:List Str)(gs:List Gr)(l:List En)(src:Int):List En:=(qve l).filter (qC0 names gs src)
theorem qlj{α:Type}{lt:α→α→Bool}{x:α}: ∀l:List α,(qcQ lt x l).Perm (x::l):=by
 intro l
 induction l with
 |nil=>exact List.Perm.refl _
 |cons y r ih=>
  unfold qcQ;split
  ·exact (List.Perm.cons y ih).trans (List.Perm.swap x y r)
  ·exact List.Perm.refl _
theorem qip{α:Type}{lt:α→α→Bool}: ∀l acc:List α,(qeY lt acc l).Perm (acc++l):=by
 intro l
 induction l with
 |nil=>intro acc;rw[List.append_nil];exact List.Perm.refl _
 |cons x r ih=>
  intro acc;refine (ih _).trans ((List.Perm.append_right r (qlj acc)).trans ?_);exact (List.perm_middle (a:=x) (l₁:=acc) (l₂:=r)).symm
theorem qe1(l:List En):(qve l).Perm l:=(List.reverse_perm _).trans (by simpa using qip (lt:=qgq) l [])
theorem qf1(l:List En):(qve l).Pairwise fun a b=>qgq b a=false:=by
 unfold qve;rw[List.pairwise_reverse];exact qeZ qgs qgr l [] List.Pairwise.nil
def qct(a b:En):Bool:=decide (b.frm<a.to)||decide (a.frm=b.frm)&&decide (a.to=b.to)
def qas:List En→Bool
 |a::b::r=>qct a b||qas (b::r)
 |_=>false
theorem qkv(L:List En):qas L=true↔ ∃i,i+1<L.length∧qct (L.getD i default) (L.getD (i+1) default)=true:=by
 induction L with
 |nil=>simp[qas]
 |cons a L ih=>
  cases L with
  |nil=>simp[qas]
  |cons b r=>
   rw[qas,Bool.or_eq_true,ih];constructor
   ·rintro (h|⟨i,h1,h2⟩)
    ·exact⟨0,by simp,h⟩
    ·exact⟨i+1,by simpa using h1,h2⟩
   ·rintro⟨i,h1,h2⟩;cases i with
    |zero=>exact .inl h2
    |succ i=>exact .inr ⟨i,by simpa using h1,h2⟩
def qgm(names:List Str)(gs:List Gr)(l:List En):Bool:=qY (fun s=>qas (ofE names gs l (s:Int))) names.length
def qai(L:List En):List AV:=L.flatMap enC
theorem qfu(e:En):(enC e).length=6:=rfl
theorem qca(L:List En):(qai L).length=L.length*6:=by
 unfold qai
 induction L with
 |nil=>rfl
 |cons a L ih=>rw[List.flatMap_cons,List.length_append,ih,List.length_cons,qfu];omega
theorem qgy(A B:List En):qai (A++B)=qai A++qai B:=by simp[qai]
theorem qgA(a:En):qai [a]=enC a:=by simp[qai]
theorem qkL(L:List En): ∀i,(qai L).drop (i*6)=qai (L.drop i):=by
 induction L with
 |nil=>intro i;simp[qai]
 |cons a L ih=>
  intro i;cases i with
  |zero=>simp
  |succ i=>
   have e:qai (a::L)=enC a++qai L:=rfl;rw[List.drop_succ_cons,e,List.drop_append,qfu,show (i+1)*6-6=i*6 by omega,ih];rw[List.drop_eq_nil_of_le (by rw[qfu];omega)];rfl
theorem qgz{L:List En}{i:Nat}(hi:i<L.length):((qai L).drop (i*6)).take 6=enC (L.getD i default):=by
 rw[qkL,List.drop_eq_getElem_cons hi,gdqA,zA hi];rfl
theorem qc5{a:En}{r:List En}(h:qas (a::r)=false):qas r=false:=by
 cases r with
 |nil=>rfl
 |cons b r=>rw[qas,Bool.or_eq_false_iff]at h;exact h.2
theorem qmR{L:List En}(hs:L.Pairwise fun a b=>qgq b a=false)(hc:qas L=false):L.Pairwise fun a b=>qgq a b=true:=by
 induction L with
 |nil=>exact List.Pairwise.nil
 |cons a r ih=>
  obtain⟨h1,h2⟩:=List.pairwise_cons.1 hs;have h3:=ih h2 (qc5 hc);refine List.pairwise_cons.2 ⟨?_,h3⟩;cases r with
  |nil=>intro z hz;cases hz
  |cons b r=>
   have hab:qgq a b=true:=by
    rw[qas,Bool.or_eq_false_iff]at hc;have h5:=hc.1;unfold qct at h5;rw[Bool.or_eq_false_iff,Bool.and_eq_false_imp,decide_eq_false_iff_not,decide_eq_true_iff,decide_eq_false_iff_not]at h5;have h4:=h1 b (by simp);rw[qbp]at h4;rw[qaY];obtain⟨h5,h6⟩:=h5
    by_cases e:a.frm=b.frm
    ·have:=h6 e;omega
    ·omega
   intro z hz;rcases List.mem_cons.1 hz with rfl|hz
   ·exact hab
   ·have h6:=(List.pairwise_cons.1 h3).1 z hz;rw[qaY]at*;omega
theorem qoa{L:List En}(hc:qas L=false){i:Nat}(hi:i+1<L.length):(L.getD i default).to≤(L.getD (i+1) default).frm:=by
 cases h:qct (L.getD i default) (L.getD (i+1) default)with
 |true=>rw[(qkv L).2 ⟨i,hi,h⟩]at hc;cases hc
 |false=>
  unfold qct at h;rw[Bool.or_eq_false_iff,decide_eq_false_iff_not]at h;omega
theorem qh4(names:List Str)(gs:List Gr)(l:List En)(src:Int):(ofE names gs l src).Pairwise fun a b=>qgq b a=false:=List.Pairwise.filter _ (qf1 l)
theorem qaK{names:List Str}{gs:List Gr}{l:List En}(h:qgm names gs l=false){s:Nat}(hs:s<names.length):qas (ofE names gs l (s:Int))=false:=
 qn.1 h s hs
structure qu2 (names:List Str) (gs:List Gr) (t:List Str) (l:List En):Prop where
 sg:sgE names gs=0
 n:l.length≤4096
 ck: ∀e∈l,qAl names gs t e=0
 cl:qgm names gs l=false
structure qz5 (names:List Str) (gs:List Gr) (t:List Str) (e:En):Prop where
 sg:sgE names gs=0
 tn:t.length≤4096
 tw:qny t=0
 lay:0≤e.layer∧e.layer<16
 rng:0≤e.frm∧e.frm≤e.to∧e.to≤t.length
 sp:0<e.sup.length→e.pos=true
 ne:e.vars.length≠0
 va: ∀i,i<e.vars.length→qqk t e i=0
 es:qkP names gs e.sup=0
 ev: ∀i,i<e.vars.length→qkP names gs (e.vars.getD i default).sigla=0
 tc:(qi2 names gs e e.vars.length).2=false
theorem qku{names:List Str}{gs:List Gr}{t:List Str}{e:En}:qAl names gs t e=0↔qz5 names gs t e:=by
 unfold qAl;constructor
 ·intro h;split at h
  ·cases h
  rename_i h1;split at h
  ·cases h
  rename_i h2;split at h
  ·cases h
  rename_i h3;split at h
  ·cases h
  rename_i h4;split at h
  ·cases h
  rename_i h5;split at h
  ·cases h
  rename_i h6;split at h
  ·rename_i h7;exact absurd h h7
  rename_i h7;split at h
  ·rename_i h8;exact absurd h h8
  rename_i h8;split at h
  ·rename_i h9;exact absurd h h9
  rename_i h9;split at h
  ·cases h
  rename_i h10;unfold qvb at h4;refine⟨Classical.not_not.1 h1,by omega,Classical.not_not.1 h3,by omega,by omega,fun h=> ?_,h6,kp.1 (Classical.not_not.1 h7),Classical.not_not.1 h8,kp.1 (Classical.not_not.1 h9),?_⟩
  ·cases hp:e.pos with
   |true=>rfl
   |false=>exact absurd ⟨h,hp⟩ h5
  ·rw[qeb]at h10;simpa using h10
 ·rintro⟨h1,h2,h3,h4,h5,h6,h7,h8,h9,h10,h11⟩;have hr: ¬qvb t e:=by unfold qvb;omega
  rw[if_neg (fun hc=>hc h1),if_neg (by omega),if_neg (fun hc=>hc h3),if_neg hr,if_neg (by rintro⟨a,b⟩;rw[h6 a]at b;cases b),if_neg h7,if_neg (fun hc=>hc (qP (f:=qqk t e) h8)),if_neg (fun hc=>hc h9),
   if_neg (fun hc=>hc (qP (f:=fun i=>qkP names gs (e.vars.getD i default).sigla) h10)),if_neg (by rw[qeb,h11];simp)]
section
variable {k v w : Nat} {h : List AObj} {o o' : AObj} {ty : TypeId} {cs : List AV}
end
end RC
end
section
open Go Go.Proofs AF HY LN
namespace AF
theorem Wk.cells{t:List AV}{h:List AObj}{j v:Nat}{ty:TypeId}{cs cs':List AV}(hj:qH j h=some (.mem v ty cs))(hc:qbn cs cs'):Wk t h t (zg j h (.mem v ty cs')):=by
 intro N w σ a H;have hjl:j<σ.length:=by rw[H.hr.len];exact kX hj
 have ho:=zA hjl;obtain⟨m1,m2,b,arr,m3,m4,m5,m6,m7,m8⟩:=H.hr.obj j _ _ hj ho;have q:=H.hr.recell (cs':=cs') hj ho m3 m4 m5 (by rw[hc.length];exact m6) (fun i x hi hx=>m7 i x (by rw[←hc.length];exact hi) hx) (fun i c x hi hx=>by
  obtain⟨c0,h1,h2⟩:=hc.get i c hi
  exact h2 _ _ _ (m8 i c0 x h1 hx))
 exact⟨σ,⟨q,H.sz,H.tm,H.df⟩,Ext.refl _ _⟩
end AF
namespace RC
end RC
end
section
open Go Go.Proofs AF HY LN
namespace RC
def stV(names:List Str)(gs:List Gr)(e:En):AV:= .sl e.vars.length fun j=> [ql (qdb names gs (e.vars.getD j default).sigla)]
def msV(names:List Str)(gs:List Gr)(L:List En):AV:= .sl L.length fun i=> [stV names gs (L.getD i default)]
theorem qoB(names:List Str)(gs:List Gr)(e:En):(stV names gs e).flag=true:=rfl
theorem qmX(names:List Str)(gs:List Gr)(e:En):(stV names gs e).strip=stV names gs e:=rfl
theorem qoz(names:List Str)(gs:List Gr)(L:List En):(msV names gs L).flag=true:=rfl
theorem qmV(names:List Str)(gs:List Gr)(L:List En):(msV names gs L).strip=msV names gs L:=rfl
theorem qtl{fz:Nat→Bool}{h:List AObj}{n:Nat}(names:List Str)(gs:List Gr)(e:En):frz fz h (n+1) (stV names gs e)=stV names gs e:=rfl
theorem qub{fz:Nat→Bool}{h:List AObj}{n:Nat}(names:List Str)(gs:List Gr)(e:En):rei fz h (n+1) (stV names gs e)=stV names gs e:=rfl
theorem qtk{fz:Nat→Bool}{h:List AObj}{n:Nat}(names:List Str)(gs:List Gr)(L:List En):frz fz h (n+1) (msV names gs L)=msV names gs L:=rfl
theorem qua{fz:Nat→Bool}{h:List AObj}{n:Nat}(names:List Str)(gs:List Gr)(L:List En):rei fz h (n+1) (msV names gs L)=msV names gs L:=rfl
attribute [go_sem] qoB qmX qoz qmV qtl qub qtk qua
end RC
end
section
open Go Go.Proofs AF HY LN
namespace AF
theorem qaU{P:Program}{f:FuncId}{cap:List AV}{xs:List (List AV)}(hf:qu0 P f cap xs){ps:List Nat}{b:Nat}{x y:C}{Q:Ex→Nx}{ts:List AV}{h:List AObj}(hps: ∀a∈xs,a.length=ps.length)
  (S:Nat→List AObj→Prop) (E:Ex→List AObj→Prop) (hS: ∀i hh,S i hh→LowI h hh) (hE: ∀s hh,E s hh→LowI h hh)
  (start:S 0 h) (hts: ∀c∈ts,ji (h.length+1) c=true)
  (body: ∀i hh tl L TS,(hi:i<xs.length)→S i hh→hh.length=h.length→ ∀(K:Nx) (K2:Ex→Nx),
   (∀t2 X hm,X=hm++ .lp .ready TS L::tl→hm.length=h.length→qX P b y K2 t2 (hm++ .lp .busy TS L::tl)→K t2 X)→
   (∀t3 X hh',X=hh'++ .lp .busy TS L::tl→hh'.length=h.length→S (i+1) hh'→K2 .normal t3 X)→
   (∀t3 X hh',X=hh'++ .lp .busy TS L::tl→hh'.length=h.length→E .ret hh'→K2 .ret t3 X)→
   (∀id t3 X hh',X=hh'++ .lp .busy TS L::tl→hh'.length=h.length→E (.exit id) hh'→K2 (.exit id) t3 X)→
   qX P b x (Ex.andThen K (fun _ _ _=>False)) (qb6 ts ps (xs[i])) (hh++ .lp .ready TS L::tl))
  (done: ∀hh,S xs.length hh→Q .normal ts hh) (doneE: ∀e hh,E e hh→match e with
   | .normal=>False
   |e=>Q e ts hh):
  qeO P (.fn (.func f) [] cap) ps (qX P b x) (qX P b y) Q ts h:=by
 intro L hy;show jR _ _ _ _ _;have key:=hf h ts L S (fun s hh=>match s with
  | .ret=>E .ret hh
  | .exit id=>E (.exit id) hh
  |_=>False) hS
  (by
   intro s hh hs;cases s with
   |ret=>exact hE _ _ hs
   |exit id=>exact hE _ _ hs
   |ready=>exact hs.elim
   |busy=>exact hs.elim)
  (by
   intro i hh tl hi i4;have hlen:=(hS _ _ i4).1;refine hy h.length ts _ _ _ (kz hlen) (hps _ (List.getElem_mem hi)) ?_;refine qaB (Q:=Ex.andThen (fun t2 h2=> ∃hm,hm.length=h.length∧h2=hm++ .lp .ready ts L::tl∧
    qX P b y (fun e t3 h3=> ∃hh',h3=hh'++ .lp .busy ts L::tl∧hh'.length=h.length∧match e with
     | .normal=>S (i+1) hh'
     | .ret=>E .ret hh'
     | .exit id=>E (.exit id) hh') t2 (hm++ .lp .busy ts L::tl)) (fun _ _ _=>False)) ?_
    (body i hh tl L ts hi i4 hlen _ _ (fun t2 X hm e1 e2 e3=>⟨hm,e2,e1,e3⟩) (fun t3 X hh' e1 e2 e3=>⟨hh',e1,e2,e3⟩) (fun t3 X hh' e1 e2 e3=>⟨hh',e1,e2,e3⟩) (fun id t3 X hh' e1 e2 e3=>⟨hh',e1,e2,e3⟩))
   intro e t2 h2 hq;cases e with
   |ret=>exact hq.elim
   |exit id=>exact hq.elim
   |normal=>
    obtain⟨hm,hml,rfl,h3⟩:=hq;refine⟨rfl,⟨ts,kz hml⟩,fun ts' hts'=> ?_⟩;rw[kz hml]at hts';cases hts';rw[qbW hml];refine qaB ?_ h3;rintro e t3 h3' ⟨hh',rfl,g1,g2⟩;refine⟨ts,kz g1,?_⟩;cases e with
    |normal=>exact⟨hh',.inl ⟨rfl,g2,qbW g1⟩⟩
    |ret=>exact⟨hh',.inr ⟨.ret,rfl,g2,qbW g1⟩⟩
    |exit id=>exact⟨hh',.inr ⟨.exit id,rfl,g2,qbW g1⟩⟩)
  start hts
 refine key.le (qbn.refl _) ?_;rintro v h' ⟨hh,⟨g1,rfl⟩|⟨s,g1,rfl⟩⟩
 ·have hl:=hS _ _ g1;exact⟨v,qj,hh,.ready,ts,L,rfl,hl.1,fun o ho=>(hl.2 o ho).imp (fun h=>h) And.left,done hh g1⟩
 ·cases s with
  |ready=>exact g1.elim
  |busy=>exact g1.elim
  |ret=>
   have hl:=hE _ _ g1;exact⟨v,qj,hh,.ret,ts,L,rfl,hl.1,fun o ho=>(hl.2 o ho).imp (fun h=>h) And.left,doneE _ _ g1⟩
  |exit id=>
   have hl:=hE _ _ g1;exact⟨v,qj,hh,.exit id,ts,L,rfl,hl.1,fun o ho=>(hl.2 o ho).imp (fun h=>h) And.left,doneE _ _ g1⟩
end AF
namespace RC
theorem qdG(n:Nat)(L:List Str):ji n (strs L)=true:=rfl
end RC
end
section
open Go Go.Proofs AF HY LN
namespace AF
theorem Wk.ownNil{t:List AV}{h:List AObj}{j v i k ve sz:Nat}{ty:TypeId}{cs:List AV}(hj:qH j h=some (.mem v ty cs))(hi:cs[i]? =some .nl)(hk:qH k h=some (.emp ve)):
  Wk t h t (zg j h (.mem v ty (cs.set i (.osl k ve sz 0 0)))):=by
 intro N w σ a H;have hjl:j<σ.length:=by rw[H.hr.len];exact kX hj
 have hkl:k<σ.length:=by rw[H.hr.len];exact kX hk
 have ho:=zA hjl;have hok:=zA hkl;obtain⟨e1,e2⟩:=H.hr.obj k _ _ hk hok;obtain⟨m1,m2,b,arr,m3,m4,m5,m6,m7,m8⟩:=H.hr.obj j _ _ hj ho;have q:=H.hr.recell (cs':=cs.set i (.osl k ve sz 0 0)) hj ho m3 m4 m5 (by simpa using m6) (fun n x hn hx=>m7 n x (by simpa using hn) hx) (fun n c x hn hx=>by
  rw[List.getElem?_set]at hn;split at hn
  ·rename_i e;subst e;split at hn
   ·cases hn;have hv:=m8 i _ x hi hx;cases hv with
    |imm hv=>
     cases hv;exact .osl _ hok ⟨none,0,0,rfl⟩ (Nat.le_of_eq e1.symm) (fun _=> .inl ⟨e2,rfl,rfl,rfl⟩)
   ·cases hn
  ·exact m8 n c x hn hx)
 exact⟨σ,⟨q,H.sz,H.tm,H.df⟩,Ext.refl _ _⟩
end AF
namespace RC
structure qCs (t:List Str) (L:List En):Prop where
 rg: ∀i,i<L.length→0≤(L.getD i default).frm∧(L.getD i default).frm≤(L.getD i default).to∧(L.getD i default).to≤t.length
 nx: ∀i,i+1<L.length→(L.getD i default).to≤(L.getD (i+1) default).frm
theorem qtG{names:List Str}{gs:List Gr}{l:List En}{src:Int}{e:En}(h:e∈ofE names gs l src):e∈l:=(qe1 l).subset (List.mem_filter.1 h).1
theorem qev{L:List En}{i:Nat}(hi:i<L.length):L.getD i default∈L:=by
 rw[gdqA,zA hi];exact List.getElem_mem hi
theorem qu2.tx{names:List Str}{gs:List Gr}{t:List Str}{l:List En}(h:qu2 names gs t l){s:Nat}(hs:s<names.length):qCs t (ofE names gs l (s:Int)):=
 ⟨fun i hi=>(qku.1 (h.ck _ (qtG (qev hi)))).rng,fun i hi=>qoa (qaK h.cl hs) hi⟩
end RC
end
section
open Go Go.Proofs AF HY LN
namespace RC
def quv(L:List (List Str)):AV:= .sl L.length fun i=> [strs (L.getD i [])]
theorem qhP(L:List (List Str)):(quv L).flag=true:=rfl
theorem qf6(L:List (List Str)):(quv L).strip=quv L:=rfl
attribute [go_sem] qhP qf6
theorem zB(L:List Str):(zH L).length=L.length:=by simp[zH]
theorem qad(L M:List Str):zH (L++M)=zH L++zH M:=by simp[zH]
theorem qp0{L:List Str}:zH L= []↔L= []:=by simp[zH]
theorem qbj{L:List Str}{n:Nat}(g:AV→AV)(hg: ∀s,g (.str s)= .str s)(hn:n=L.length):VLe (.sl n fun i=>(((zH L).drop i).take 1).map g) (strs L):=by
 subst hn;refine VLe.sl_eq rfl (fun i hi=> ?_);unfold zH;rw[←List.map_drop,List.drop_eq_getElem_cons hi,List.map_cons,List.take_succ_cons,List.take_zero,List.map_cons,List.map_nil,hg,gdqA,zA hi];rfl
theorem qoG{α β:Type}(f:α→β)(L:List α):L.flatMap (fun i=> [f i])=L.map f:=by
 induction L with
 |nil=>rfl
 |cons a L ih=>rw[List.flatMap_cons,ih];rfl
theorem qmM(h:List AObj){t:List Str}{a b:Nat}(h1:a≤b)(h2:b≤t.length):qs h (.sl (b-a) fun i=> [.str (t.getD (a+i) [])])=some (b-a,zH (qci t a b)):=by
 show some (b-a,(List.range (b-a)).flatMap fun i=> [AV.str (t.getD (a+i) [])])=_;rw[qoG (fun i=>AV.str (t.getD (a+i) []))];congr 2;unfold zH qci;apply List.ext_getElem
 ·simp;omega
 ·intro i g1 g2;have hi:i<b-a:=by simpa using g1
  have hl:a+i<t.length:=by omega
  simp[gdqA,hl]
theorem qpZ(h:List AObj)(t:List Str):qs h (strs t)=some (t.length,zH t):=by
 have:=qmM h (t:=t) (a:=0) (b:=t.length) (Nat.zero_le _) (Nat.le_refl _)
 simp only[Nat.sub_zero,Nat.zero_add]at this;have e:qci t 0 t.length=t:=by simp[qci]
 rw[e]at this;exact this
def gwB(ws:List Str)(n:Nat):Bool:=qY (fun i=>decide (20<(ws.getD i []).length)) ws.length||decide (n<ws.length)
theorem ju{p:Nat→Bool}{i:Nat}(h: ∀j,j<i→p j=false)(hp:p i=false): ∀j,j<i+1→p j=false:=by
 intro j hj
 by_cases e:j=i
 ·subst e;exact hp
 ·exact h j (by omega)
theorem gwP(ws:List Str)(n:Nat)(h:List AObj)(hn:ws.length≤9223372036854775807):ACalls Tryz.prog 70 [strs ws,.int .i64 n] h (.bool (gwB ws n)) h:=by
 obtain⟨R,hR⟩: ∃R,R=gwB ws n:=⟨_,rfl⟩
 rw[←hR];unfold gwB at hR;refine acO qAH ?_;simp (disch:=omega) only[qBX,strs,go_sem];refine qm (T:=fun i:Nat=>qI 22 [(0,strs ws),(1,.int .i64 n),(5,.int .i64 i)]) (H:=fun _=>h) (inv:=fun i=>i≤ws.length∧ ∀j,j<i→(fun i=>decide (20<(ws.getD i []).length)) j=false) (m:=fun i=>ws.length-i) 0 ⟨Nat.zero_le _,fun j hj=>by omega⟩ (Wk.temps ?_) ?_
 ·(simp only[strs,go_sem,qh,qd,qa,qg];try (repeat' first|(with_reducible apply aiA)|(apply qi;omega)|(apply qe;rfl)|exact qj))
 rintro i ⟨i1,i2⟩ K hK
 by_cases hi:i<ws.length
 ·have k1:((i:Int)<ws.length)=True:=eq_true (by omega)
  by_cases g:20<(ws.getD i []).length
  ·have hV:R=true:=by rw[hR,qv.2 ⟨i,hi,decide_eq_true g⟩];rfl
   obtain⟨s,hs⟩: ∃s,s=ws.getD i []:=⟨_,rfl⟩
   have es:=hs.symm;rw[es]at g;have k2:((20:Int)<s.length)=True:=eq_true (by omega);rw[hV];simp (disch:=omega) only[strs,k1,k2,es,go_sem]
   repeat' first
    |(apply qf;exact rvk;simp only[go_sem];exact qj)
    |with_reducible apply aiA
   all_goals try exact clz
  ·have i3:=ju i2 (decide_eq_false g);obtain⟨s,hs⟩: ∃s,s=ws.getD i []:=⟨_,rfl⟩
   have es:=hs.symm;rw[es]at g;have k2:((20:Int)<s.length)=False:=eq_false (by omega);simp (disch:=omega) only[strs,k1,k2,es,go_sem]
   repeat' first
    |with_reducible apply aiA
   all_goals try exact clz
   refine hK _ _ (i+1) ⟨hi,i3⟩ (by omega) (Wk.temps ?_)
   (simp only[strs,go_sem,qh,qd,qa,qg];try (repeat' first|(with_reducible apply aiA)|(apply qi;omega)|(apply qe;rfl)|exact qj))
 ·have k1:((i:Int)<ws.length)=False:=eq_false (by omega);rw[qn.2 (fun j hj=>i2 j (by omega)),Bool.false_or]at hR;have e:decide ((n:Int)<ws.length)=R:=by rw[hR];exact decide_eq_decide.2 (by omega)
  simp (disch:=omega) only[strs,k1,go_sem]
  repeat' first
   |(apply qf;exact rvk;simp only[go_sem];apply qe)
  all_goals try exact clz
def grB(g:Gr):Bool:=decide (20<g.name.length)||decide (40<g.mem.length)
def qk9(names:List Str)(gs:List Gr):Bool:=
 qY (fun i=>decide (20<(names.getD i []).length)) names.length||(qY (fun i=>grB (gs.getD i default)) gs.length||
  (((decide (8<names.length)&&decide (names.length≤32))||decide (34<names.length))||(decide (5<gs.length)&&decide (gs.length≤16))||decide (18<gs.length)))
theorem qCV(names:List Str)(gs:List Gr)(h:List AObj)(hn:names.length≤9223372036854775807)(hg:gs.length≤9223372036854775807):ACalls Tryz.prog 69 [strs names,qF gs] h (.bool (qk9 names gs)) h:=by
 obtain⟨R,hR⟩: ∃R,R=qk9 names gs:=⟨_,rfl⟩
 rw[←hR];unfold qk9 at hR;refine acO qAG ?_;simp (disch:=omega) only[qBW,strs,qF,go_sem];refine qm (T:=fun i:Nat=>qI 69 [(0,strs names),(1,qF gs),(5,.int .i64 i)]) (H:=fun _=>h) (inv:=fun i=>i≤names.length∧ ∀j,j<i→(fun i=>decide (20<(names.getD i []).length)) j=false) (m:=fun i=>names.length-i) 0 ⟨Nat.zero_le _,fun j hj=>by omega⟩ (Wk.temps ?_) ?_
 ·(simp only[strs,qF,go_sem,qh,qd,qa,qg];try (repeat' first|(with_reducible apply aiA)|(apply qi;omega)|(apply qe;rfl)|exact qj))
 rintro i ⟨i1,i2⟩ K hK
 by_cases hi:i<names.length
 ·have k1:((i:Int)<names.length)=True:=eq_true (by omega)
  by_cases g:20<(names.getD i []).length
  ·have hV:R=true:=by rw[hR,qv.2 ⟨i,hi,decide_eq_true g⟩];rfl
   obtain⟨s,hs⟩: ∃s,s=names.getD i []:=⟨_,rfl⟩
   have es:=hs.symm;rw[es]at g;have k2:((20:Int)<s.length)=True:=eq_true (by omega);rw[hV];simp (disch:=omega) only[strs,qF,k1,k2,es,go_sem]
   repeat' first
    |(apply qf;exact rvk;simp only[go_sem];exact qj)
    |with_reducible apply aiA
   all_goals try exact clz
  ·have i3:=ju i2 (decide_eq_false g);obtain⟨s,hs⟩: ∃s,s=names.getD i []:=⟨_,rfl⟩
   have es:=hs.symm;rw[es]at g;have k2:((20:Int)<s.length)=False:=eq_false (by omega);simp (disch:=omega) only[strs,qF,k1,k2,es,go_sem]
   repeat' first
    |with_reducible apply aiA
   all_goals try exact clz
   refine hK _ _ (i+1) ⟨hi,i3⟩ (by omega) (Wk.temps ?_)
   (simp only[strs,qF,go_sem,qh,qd,qa,qg];try (repeat' first|(with_reducible apply aiA)|(apply qi;omega)|(apply qe;rfl)|exact qj))
 have k1:((i:Int)<names.length)=False:=eq_false (by omega);rw[qn.2 (fun j hj=>i2 j (by omega)),Bool.false_or]at hR;simp (disch:=omega) only[strs,qF,k1,go_sem];refine qm (T:=fun i:Nat=>qI 69 [(0,strs names),(1,qF gs),(6,.int .i64 i)]) (H:=fun _=>h) (inv:=fun i=>i≤gs.length∧ ∀j,j<i→(fun i=>grB (gs.getD i default)) j=false) (m:=fun i=>gs.length-i) 0 ⟨Nat.zero_le _,fun j hj=>by omega⟩ (Wk.temps ?_) ?_
 ·(simp only[strs,qF,go_sem,qh,qd,qa,qg];try (repeat' first|(with_reducible apply aiA)|(apply qi;omega)|(apply qe;rfl)|exact qj))
 clear hK K;rintro i ⟨i1,i2⟩ K hK
 by_cases hi:i<gs.length
 ·have k1:((i:Int)<gs.length)=True:=eq_true (by omega);have hit:grB (gs.getD i default)=true→R=true:=fun hc=>by rw[hR,qv.2 ⟨i,hi,hc⟩];rfl
  have i3:=fun hc=>ju (p:=fun i=>grB (gs.getD i default)) i2 hc
  obtain⟨g,hg⟩: ∃g,g=gs.getD i default:=⟨_,rfl⟩
  have eg:=hg.symm;simp only[eg]at hit i3;have hB:grB g=(decide (20<g.name.length)||decide (40<g.mem.length)):=rfl
  by_cases g1:20<g.name.length
  ·have k2:((20:Int)<g.name.length)=True:=eq_true (by omega);rw[hit (by rw[hB,decide_eq_true g1];rfl)];simp (disch:=omega) only[strs,qF,grC,k1,k2,eg,go_sem]
   repeat' first
    |(apply qf;exact rvk;simp only[go_sem];exact qj)
    |with_reducible apply aiA
   all_goals try exact clz
  ·have k2:((20:Int)<g.name.length)=False:=eq_false (by omega)
   by_cases g2:40<g.mem.length
   ·have k3:((40:Int)<g.mem.length)=True:=eq_true (by omega);rw[hit (by rw[hB,decide_eq_true g2,Bool.or_true])];simp (disch:=omega) only[strs,qF,grC,ql,k1,k2,k3,eg,go_sem]
    repeat' first
     |(apply qf;exact rvk;simp only[go_sem];exact qj)
     |with_reducible apply aiA
    all_goals try exact clz
   ·have k3:((40:Int)<g.mem.length)=False:=eq_false (by omega);simp (disch:=omega) only[strs,qF,grC,ql,k1,k2,k3,eg,go_sem]
    repeat' first
     |with_reducible apply aiA
    all_goals try exact clz
    refine hK _ _ (i+1) ⟨hi,i3 (by rw[hB,decide_eq_false g1,decide_eq_false g2];rfl)⟩ (by omega) (Wk.temps ?_)
    (simp only[strs,qF,go_sem,qh,qd,qa,qg];try (repeat' first|(with_reducible apply aiA)|(apply qi;omega)|(apply qe;rfl)|exact qj))
 have k2:((i:Int)<gs.length)=False:=eq_false (by omega);rw[qn.2 (fun j hj=>i2 j (by omega)),Bool.false_or]at hR;have n1:((8:Int)<names.length)=(8<names.length):=propext (by omega);have n2:((names.length:Int)≤32)=(names.length≤32):=propext (by omega);have n3:((34:Int)<names.length)=(34<names.length):=propext (by omega);have n4:((5:Int)<gs.length)=(5<gs.length):=propext (by omega);have n5:((gs.length:Int)≤16)=(gs.length≤16):=propext (by omega);have n6:((18:Int)<gs.length)=(18<gs.length):=propext (by omega);obtain⟨q1,h1⟩: ∃q,q=decide (8<names.length):=⟨_,rfl⟩
 obtain⟨q2,h2⟩: ∃q,q=decide (names.length≤32):=⟨_,rfl⟩
 obtain⟨q3,h3⟩: ∃q,q=decide (34<names.length):=⟨_,rfl⟩
 obtain⟨q4,h4⟩: ∃q,q=decide (5<gs.length):=⟨_,rfl⟩
 obtain⟨q5,h5⟩: ∃q,q=decide (gs.length≤16):=⟨_,rfl⟩
 obtain⟨q6,h6⟩: ∃q,q=decide (18<gs.length):=⟨_,rfl⟩
 have e1:=h1.symm;have e2:=h2.symm;have e3:=h3.symm;have e4:=h4.symm;have e5:=h5.symm;have e6:=h6.symm;rw[e1,e2,e3,e4,e5,e6]at hR;have b1:(q1=true∧q2=true)∨(q1=false∧q2=true)∨(q1=true∧q2=false)∨(q1=false∧q2=false):=by cases q1<;>cases q2<;>simp
 have b4:(q4=true∧q5=true)∨(q4=false∧q5=true)∨(q4=true∧q5=false)∨(q4=false∧q5=false):=by cases q4<;>cases q5<;>simp
 clear h1 h2 h3 h4 h5 h6;rcases b1 with⟨rfl,rfl⟩|⟨rfl,rfl⟩|⟨rfl,rfl⟩|⟨rfl,rfl⟩
 ·skip
  simp only[Bool.true_and,Bool.true_or]at hR;rw[hR];simp (disch:=omega) only[strs,qF,k2,n1,n2,n3,n4,n5,n6,e1,e2,e3,e4,e5,e6,go_sem]
  repeat' first
   |(apply qf;exact rvk;simp only[go_sem];exact qj)
 ·skip
  cases q3 with
  |true=>
   simp only[Bool.false_and,Bool.true_or,Bool.false_or]at hR;rw[hR];simp (disch:=omega) only[strs,qF,k2,n1,n2,n3,n4,n5,n6,e1,e2,e3,e4,e5,e6,go_sem]
   repeat' first
    |(apply qf;exact rvk;simp only[go_sem];exact qj)
  |false=>
   rcases b4 with⟨rfl,rfl⟩|⟨rfl,rfl⟩|⟨rfl,rfl⟩|⟨rfl,rfl⟩
   ·skip
    simp only[Bool.true_and,Bool.false_and,Bool.true_or,Bool.false_or]at hR;rw[hR];simp (disch:=omega) only[strs,qF,k2,n1,n2,n3,n4,n5,n6,e1,e2,e3,e4,e5,e6,go_sem]
    repeat' first
     |(apply qf;exact rvk;simp only[go_sem];exact qj)
   ·skip
    cases q6 with
    |true=>
     simp only[Bool.false_and,Bool.false_or]at hR;rw[hR];simp (disch:=omega) only[strs,qF,k2,n1,n2,n3,n4,n5,n6,e1,e2,e3,e4,e5,e6,go_sem]
     repeat' first
      |(apply qf;exact rvk;simp only[go_sem];exact qj)
    |false=>
     simp only[Bool.false_and,Bool.false_or]at hR;rw[hR];simp (disch:=omega) only[strs,qF,k2,n1,n2,n3,n4,n5,n6,e1,e2,e3,e4,e5,e6,go_sem]
     repeat' first
      |(apply qf;exact rvk;simp only[go_sem];exact qj)
   ·skip
    cases q6 with
    |true=>
     simp only[Bool.true_and,Bool.false_and,Bool.false_or]at hR;rw[hR];simp (disch:=omega) only[strs,qF,k2,n1,n2,n3,n4,n5,n6,e1,e2,e3,e4,e5,e6,go_sem]
     repeat' first
      |(apply qf;exact rvk;simp only[go_sem];exact qj)
    |false=>
     simp only[Bool.true_and,Bool.false_and,Bool.false_or]at hR;rw[hR];simp (disch:=omega) only[strs,qF,k2,n1,n2,n3,n4,n5,n6,e1,e2,e3,e4,e5,e6,go_sem]
     repeat' first
      |(apply qf;exact rvk;simp only[go_sem];exact qj)
   ·skip
    cases q6 with
    |true=>
     simp only[Bool.false_and,Bool.false_or]at hR;rw[hR];simp (disch:=omega) only[strs,qF,k2,n1,n2,n3,n4,n5,n6,e1,e2,e3,e4,e5,e6,go_sem]
     repeat' first
      |(apply qf;exact rvk;simp only[go_sem];exact qj)
    |false=>
     simp only[Bool.false_and,Bool.false_or]at hR;rw[hR];simp (disch:=omega) only[strs,qF,k2,n1,n2,n3,n4,n5,n6,e1,e2,e3,e4,e5,e6,go_sem]
     repeat' first
      |(apply qf;exact rvk;simp only[go_sem];exact qj)
 ·skip
  cases q3 with
  |true=>
   simp only[Bool.true_and,Bool.true_or,Bool.false_or]at hR;rw[hR];simp (disch:=omega) only[strs,qF,k2,n1,n2,n3,n4,n5,n6,e1,e2,e3,e4,e5,e6,go_sem]
   repeat' first
    |(apply qf;exact rvk;simp only[go_sem];exact qj)
  |false=>
   rcases b4 with⟨rfl,rfl⟩|⟨rfl,rfl⟩|⟨rfl,rfl⟩|⟨rfl,rfl⟩
   ·skip
    simp only[Bool.true_and,Bool.true_or,Bool.false_or]at hR;rw[hR];simp (disch:=omega) only[strs,qF,k2,n1,n2,n3,n4,n5,n6,e1,e2,e3,e4,e5,e6,go_sem]
    repeat' first
     |(apply qf;exact rvk;simp only[go_sem];exact qj)
   ·skip
    cases q6 with
    |true=>
     simp only[Bool.true_and,Bool.false_and,Bool.false_or]at hR;rw[hR];simp (disch:=omega) only[strs,qF,k2,n1,n2,n3,n4,n5,n6,e1,e2,e3,e4,e5,e6,go_sem]
     repeat' first
      |(apply qf;exact rvk;simp only[go_sem];exact qj)
    |false=>
     simp only[Bool.true_and,Bool.false_and,Bool.false_or]at hR;rw[hR];simp (disch:=omega) only[strs,qF,k2,n1,n2,n3,n4,n5,n6,e1,e2,e3,e4,e5,e6,go_sem]
     repeat' first
      |(apply qf;exact rvk;simp only[go_sem];exact qj)
   ·skip
    cases q6 with
    |true=>
     simp only[Bool.true_and,Bool.false_or]at hR;rw[hR];simp (disch:=omega) only[strs,qF,k2,n1,n2,n3,n4,n5,n6,e1,e2,e3,e4,e5,e6,go_sem]
     repeat' first
      |(apply qf;exact rvk;simp only[go_sem];exact qj)
    |false=>
     simp only[Bool.true_and,Bool.false_or]at hR;rw[hR];simp (disch:=omega) only[strs,qF,k2,n1,n2,n3,n4,n5,n6,e1,e2,e3,e4,e5,e6,go_sem]
     repeat' first
      |(apply qf;exact rvk;simp only[go_sem];exact qj)
   ·skip
    cases q6 with
    |true=>
     simp only[Bool.true_and,Bool.false_and,Bool.false_or]at hR;rw[hR];simp (disch:=omega) only[strs,qF,k2,n1,n2,n3,n4,n5,n6,e1,e2,e3,e4,e5,e6,go_sem]
     repeat' first
      |(apply qf;exact rvk;simp only[go_sem];exact qj)
    |false=>
     simp only[Bool.true_and,Bool.false_and,Bool.false_or]at hR;rw[hR];simp (disch:=omega) only[strs,qF,k2,n1,n2,n3,n4,n5,n6,e1,e2,e3,e4,e5,e6,go_sem]
     repeat' first
      |(apply qf;exact rvk;simp only[go_sem];exact qj)
 ·skip
  cases q3 with
  |true=>
   simp only[Bool.false_and,Bool.true_or,Bool.false_or]at hR;rw[hR];simp (disch:=omega) only[strs,qF,k2,n1,n2,n3,n4,n5,n6,e1,e2,e3,e4,e5,e6,go_sem]
   repeat' first
    |(apply qf;exact rvk;simp only[go_sem];exact qj)
  |false=>
   rcases b4 with⟨rfl,rfl⟩|⟨rfl,rfl⟩|⟨rfl,rfl⟩|⟨rfl,rfl⟩
   ·skip
    simp only[Bool.true_and,Bool.false_and,Bool.true_or,Bool.false_or]at hR;rw[hR];simp (disch:=omega) only[strs,qF,k2,n1,n2,n3,n4,n5,n6,e1,e2,e3,e4,e5,e6,go_sem]
    repeat' first
     |(apply qf;exact rvk;simp only[go_sem];exact qj)
   ·skip
    cases q6 with
    |true=>
     simp only[Bool.false_and,Bool.false_or]at hR;rw[hR];simp (disch:=omega) only[strs,qF,k2,n1,n2,n3,n4,n5,n6,e1,e2,e3,e4,e5,e6,go_sem]
     repeat' first
      |(apply qf;exact rvk;simp only[go_sem];exact qj)
    |false=>
     simp only[Bool.false_and,Bool.false_or]at hR;rw[hR];simp (disch:=omega) only[strs,qF,k2,n1,n2,n3,n4,n5,n6,e1,e2,e3,e4,e5,e6,go_sem]
     repeat' first
      |(apply qf;exact rvk;simp only[go_sem];exact qj)
   ·skip
    cases q6 with
    |true=>
     simp only[Bool.true_and,Bool.false_and,Bool.false_or]at hR;rw[hR];simp (disch:=omega) only[strs,qF,k2,n1,n2,n3,n4,n5,n6,e1,e2,e3,e4,e5,e6,go_sem]
     repeat' first
      |(apply qf;exact rvk;simp only[go_sem];exact qj)
    |false=>
     simp only[Bool.true_and,Bool.false_and,Bool.false_or]at hR;rw[hR];simp (disch:=omega) only[strs,qF,k2,n1,n2,n3,n4,n5,n6,e1,e2,e3,e4,e5,e6,go_sem]
     repeat' first
      |(apply qf;exact rvk;simp only[go_sem];exact qj)
   ·skip
    cases q6 with
    |true=>
     simp only[Bool.false_and,Bool.false_or]at hR;rw[hR];simp (disch:=omega) only[strs,qF,k2,n1,n2,n3,n4,n5,n6,e1,e2,e3,e4,e5,e6,go_sem]
     repeat' first
      |(apply qf;exact rvk;simp only[go_sem];exact qj)
    |false=>
     simp only[Bool.false_and,Bool.false_or]at hR;rw[hR];simp (disch:=omega) only[strs,qF,k2,n1,n2,n3,n4,n5,n6,e1,e2,e3,e4,e5,e6,go_sem]
     repeat' first
      |(apply qf;exact rvk;simp only[go_sem];exact qj)
theorem qrc{ws:List Str}{n:Nat}(h:gwB ws n=false):ws.length≤n∧ ∀i,(ws.getD i []).length≤20:=by
 unfold gwB at h;rw[Bool.or_eq_false_iff,decide_eq_false_iff_not,qn]at h;refine⟨by omega,fun i=> ?_⟩
 by_cases hi:i<ws.length
 ·have:=of_decide_eq_false (h.1 i hi)
  omega
 ·rw[gdqA,List.getElem?_eq_none (by omega)];exact Nat.zero_le _
theorem qto{names:List Str}{gs:List Gr}(h:qk9 names gs=false):names.length≤34∧gs.length≤18∧(∀i,(names.getD i []).length≤20)∧ ∀i,(gs.getD i default).name.length≤20∧(gs.getD i default).mem.length≤40:=by
 unfold qk9 at h;simp only[Bool.or_eq_false_iff,decide_eq_false_iff_not,qn]at h;obtain⟨h1,h2,⟨⟨_,h3⟩,_⟩,h4⟩:=h;refine⟨by omega,by omega,fun i=> ?_,fun i=> ?_⟩
 ·by_cases hi:i<names.length
  ·have:=h1 i hi
   omega
  ·rw[gdqA,List.getElem?_eq_none (by omega)];exact Nat.zero_le _
 ·by_cases hi:i<gs.length
  ·have:=h2 i hi
   unfold grB at this;simp only[Bool.or_eq_false_iff,decide_eq_false_iff_not]at this;omega
  ·rw[gdqA,List.getElem?_eq_none (by omega)];exact⟨Nat.zero_le _,Nat.zero_le _⟩
end RC
end
section
open Go Go.Proofs AF HY LN
namespace AF
theorem qaE{v:Nat}{ty:TypeId}{cs:List AV}{n:Nat}(h: ∀c∈cs,ji n c=true):qaj n (zV v ty cs):=by
 unfold zV;split
 ·trivial
 ·exact h
end AF
namespace RC
theorem qio(L:List Str):(strs L).solid=true:=rfl
theorem qhz(L:List Str):(strs L).cells= [strs L]:=rfl
theorem qfi{k v z p n:Nat}(L:List Str):qck (.osl k v z p n) (strs L)=true:=rfl
attribute [go_sem] qio qhz qfi
theorem qdU{v:Nat}{L:List Str}{g:AV→AV}{n:Nat}(hg: ∀s,g (.str s)= .str s)(hn:n=L.length):VLe (qd9 (some (zV v 9 (zH L))) v 1 0 n g) (strs L):=by
 subst hn
 by_cases h:L= []
 ·subst h;show VLe (qd9 (some (.emp v)) v 1 0 0 g) _;rw[slOf_emp,if_pos rfl];exact jS
 ·have e0:zV v 9 (zH L)= .mem v 9 (zH L):=jJ (fun e=>h (qp0.1 e));rw[e0,slOf_mem,if_pos ⟨rfl,by rw[zB];omega⟩];simp only[Nat.zero_add,Nat.mul_one];exact qbj g hg rfl
end RC
end
section
open Go Go.Proofs AF HY LN
namespace AF
theorem Wk.fzCell{t:List AV}{h:List AObj}{j k i v:Nat}{ty:TypeId}{cs:List AV}{c c':AV}(hj:qH j h=some (.mem v ty cs))(hi:cs[i]? =some c)(hs:qz h k=true)(hne:j≠k)(hc:VLe (frz (fun b=> [k].contains b) h 8 c) c'):
  Wk t h t (zg j (zg k h (.emp (qq (qH k h)+1))) (.mem v ty (cs.set i c'))):=by
 intro N w σ a H;have hs':kq [k] h=true:=by simp[kq,hs]
 obtain⟨σ',g1,g2,g3,g4⟩:=qcB [k] H.hr hs';have hn:j∉ [k]:=by simp[hne]
 have frzv: ∀c x,VR w σ c x→VR w σ' (frz (fun b=> [k].contains b) h 8 c) x:=fun c x hx=>
  qgK H.hr (fun b hb=>(g4 b hb).elim fun j ⟨o,h1,h2,h3⟩=>⟨j,o,by simpa using h1,h2,h3⟩) (fun j o hj ho=>g3 j o (by simpa using hj) ho) 8 hx
 have hjl:j<σ.length:=by rw[H.hr.len];exact kX hj
 have ho:=zA hjl;obtain⟨m1,m2,b,arr,m3,m4,m5,m6,m7,m8⟩:=H.hr.obj j _ _ hj ho;have q:=g1.recell (cs':=cs.set i c') ((qoZ hn).trans hj) (g3 j _ hn ho) m3 m4 m5 (by simpa using m6) (fun n x hn hx=>m7 n x (by simpa using hn) hx) (fun n d x hd hx=>by
  rw[List.getElem?_set]at hd;split at hd
  ·rename_i e;subst e;split at hd
   ·cases hd;exact hc _ _ _ (frzv _ x (m8 i _ x hi hx))
   ·cases hd
  ·exact (m8 n d x hd hx).ext g2)
 exact⟨σ',⟨q,H.sz,fun n d x hd hx=>(H.tm n d x hd hx).ext g2,qaP g2 H.df⟩,g2⟩
theorem qa4{h:List AObj}{k ve sz off n:Nat}:frz (fun b=> [k].contains b) h 8 (.osl k ve sz off n)=qd9 (qH k h) ve sz off n (rei (fun b=> [k].contains b) h 7):=by
 rw[frz_osl,if_pos (by simp),rei_osl,if_pos (by simp)]
end AF
namespace RC
theorem qim(L:List Gr):(qF L).solid=true:=rfl
theorem qhx(L:List Gr):(qF L).cells= [qF L]:=rfl
theorem qil(L:List En):(qbm L).solid=true:=rfl
theorem qhw(L:List En):(qbm L).cells= [qbm L]:=rfl
theorem qmF(names:List Str)(gs:List Gr)(e:En):(stV names gs e).solid=true:=rfl
theorem qkq(names:List Str)(gs:List Gr)(e:En):(stV names gs e).cells= [stV names gs e]:=rfl
theorem qmD(names:List Str)(gs:List Gr)(L:List En):(msV names gs L).solid=true:=rfl
theorem qko(names:List Str)(gs:List Gr)(L:List En):(msV names gs L).cells= [msV names gs L]:=rfl
theorem qfT(L:List Int):(ql L).solid=true:=rfl
theorem qfn(L:List Int):(ql L).cells= [ql L]:=rfl
attribute [go_sem] qim qhx qil qhw qmF qkq qmD qko qfT qfn
theorem qpP{v n:Nat}{ty:TypeId}{L:List En}{fz:Nat→Bool}{h:List AObj}{d:Nat}(hn:n=L.length):VLe (qd9 (some (.mem v ty (qai L))) v 6 0 n (rei fz h (d+1))) (qbm L):=by
 subst hn;rw[slOf_mem,if_pos ⟨rfl,by rw[qca];omega⟩];refine VLe.sl_eq rfl (fun i hi=> ?_);simp only[Nat.zero_add];rw[qgz hi];rfl
end RC
end
section
open Go Go.Proofs AF HY LN
namespace RC
section
variable (names : List Str) (gs : List Gr) (t : List Str) (l : List En) (src : Int) (h : List AObj)
theorem qch{v n:Nat}{L:List Int}{g:AV→AV}(hg: ∀s,g (.int .i64 s)= .int .i64 s)(hn:n=L.length):VLe (qd9 (some (zV v 3 (qx L))) v 1 0 n g) (ql L):=by
 subst hn
 by_cases h:L= []
 ·subst h;show VLe (qd9 (some (.emp v)) v 1 0 0 g) _;rw[slOf_emp,if_pos rfl];exact jS
 ·have e0:zV v 3 (qx L)= .mem v 3 (qx L):=jJ (fun e=>h (qeC.1 e));rw[e0,slOf_mem,if_pos ⟨rfl,by rw[qV];omega⟩];simp only[Nat.zero_add,Nat.mul_one];exact qau g hg rfl
end
section
variable (names : List Str) (gs : List Gr) (t : List Str) (l : List En) (src : Int) (h : List AObj)
end
end RC
end
section
open Go Go.Proofs AF HY LN
namespace RC
end RC
namespace RC
end RC
end
