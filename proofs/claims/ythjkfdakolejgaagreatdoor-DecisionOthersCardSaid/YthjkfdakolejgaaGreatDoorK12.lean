import Derived.Test.YthjkfdakolejgaaGreatDoorK11
import Derived.Test.YthjkfdakolejgaaGreatDoorK10
import Derived.Shelf.Slices.In.SortAlone
import Derived.Shelf.Slices.In.CompactI
import Derived.Test.YthjkfdakolejgaaGreatDoorProg
import Derived.Test.YthjkfdakolejgaaGreatDoorK9
import Derived.Sort.OwnSortedInts
import Derived.Test.YthjkfdakolejgaaGreatDoorK3
import Derived.Test.YthjkfdakolejgaaGreatDoorK5
import Derived.Test.YthjkfdakolejgaaGreatDoorK8
import Derived.Lib.IndexMore
import Derived.Lib.CountLaws
import Derived.Laws.Strings3
import Derived.Test.YthjkfdakolejgaaGreatDoorK7
import Derived.Shelf.Strings.BuilderX
import Derived.Shelf.RegionOpenPlain
import Derived.Lib.Strings
import Derived.Lib.Slices
import Derived.Lib.Walk
import Derived.Lib.Builder
import Derived.Lib.AppendStr
import Derived.Lib.UnsafeStr
import Derived.Lib.MakeNoZero
import Derived.WalkKit
import Derived.Laws.Externs
import Derived.RangeFuncBox
import Derived.Laws.Rows
set_option linter.all false
set_option linter.unusedSimpArgs false
set_option linter.unusedVariables false
set_option linter.unusedSectionVars false
set_option maxHeartbeats 128000000
set_option maxRecDepth 100000
section
open Go Go.Proofs AF HY LN
namespace RC
def zP(x:Co)(g:Str):Int:=qcM (fun j=>decide (g=x.sig.getD j [])) x.sig.length 0
def kY(x:Co)(s:Nat)(t:Int):Int:=qcM (fun k=>decide ((x.col.getD k []).getD s 0=t)) x.col.length 0
def km(x:Co)(l:List Un)(o:Dc):Int:=fnU l (kY x (zP x o.sig).toNat o.tok)
def tkB(x:Co)(o:Dc):Bool:=decide (0≤zP x o.sig)&&(decide (0≤o.tok)&&decide (o.tok<((x.tok.getD (zP x o.sig).toNat []).length:Int)))
def cjE(o:Dc):Int:=if o.kind=2 then (if qjX o.txt≠0 then qjX o.txt else if qsX o.txt= [] then 5 else 0) else 0
def qay(x:Co)(l:List Un)(o:Dc):Int:=
 if o.kind<1∨3<o.kind then 8 else if o.txt≠ []∧o.kind≠2 then 1 else if tkB x o=false then 6 else if km x l o<0 then 20 else cjE o
def qj0(x:Co)(l:List Un)(o:Dc):Int:=if vaE x l≠0 then vaE x l else qay x l o
def qrY(x:Co)(l:List Un)(o:Dc):Int:=if qj0 x l o=0 then km x l o else 0
def qbH(x:Co)(l:List Un)(d:List Dc):Int:=if 256<d.length then 4 else qbs (fun i=>qay x l (d.getD i default)) 0 d.length
theorem qh3{x:Co}{o:Dc}(h:tkB x o=true):0≤zP x o.sig∧(zP x o.sig).toNat<x.sig.length∧x.sig.getD (zP x o.sig).toNat []=o.sig∧0≤o.tok∧o.tok<((x.tok.getD (zP x o.sig).toNat []).length:Int):=by
 unfold tkB at h;rw[Bool.and_eq_true,Bool.and_eq_true,decide_eq_true_iff,decide_eq_true_iff,decide_eq_true_iff]at h;obtain⟨h1,h2,h3⟩:=h;rcases jb (fun j=>decide (o.sig=x.sig.getD j [])) x.sig.length with⟨i,g1,g2,_,g4⟩|⟨_,g2⟩
 ·have e:zP x o.sig=i:=g4;rw[e]at h1 h3 ⊢;exact⟨h1,g1,(of_decide_eq_true g2).symm,h2,h3⟩
 ·have e:zP x o.sig= -1:=g2;omega
theorem qbb{x:Co}{l:List Un}{o:Dc}(h:qay x l o=0):1≤o.kind∧o.kind≤3∧(o.txt= []∨o.kind=2)∧tkB x o=true∧0≤km x l o∧cjE o=0:=by
 unfold qay at h;split at h
 ·cases h
 split at h
 ·cases h
 split at h
 ·cases h
 split at h
 ·cases h
 rename_i h1 h2 h3 h4;refine⟨om,om,?_,by simpa using h3,om,h⟩
 by_cases e:o.txt= []
 ·exact .inl e
 ·exact .inr (Classical.not_not.1 fun hc=>h2 ⟨e,hc⟩)
theorem qlq{o:Dc}(h:cjE o=0)(hk:o.kind=2):zU o.txt=0∧qh6 o.txt=0∧qf2 o.txt≠ []∧o.txt≠ []:=by
 unfold cjE at h;rw[ipo hk]at h;split at h
 ·rename_i e;exact absurd h e
 rename_i h1;have h1:=Classical.not_not.1 h1;split at h
 ·cases h
 rename_i h2;unfold qsX at h2;rw[ipo h1]at h2;have h3:qf2 o.txt≠ []:=fun e=>h2 (by rw[e];rfl)
 unfold qjX at h1;split at h1
 ·rename_i e;exact absurd h1 e
 rename_i g;exact⟨Classical.not_not.1 g,h1,h3,fun e=>h3 (by rw[e];rfl)⟩
structure Pc where
 t:Tk
 c:Int
instance:Inhabited Pc:=⟨⟨default,0⟩⟩
def pcB(x:Co)(s k:Nat):Bool:=decide (0≤(x.col.getD k []).getD s 0)
def pcT(x:Co)(s k:Nat):Pc:=⟨(x.tok.getD s []).getD ((x.col.getD k []).getD s 0).toNat default,(k:Int)⟩
def spk(x:Co)(s f:Nat):Nat→List Pc
 |0=> []
 |d+1=>spk x s f d++if pcB x s (f+d)=true then [pcT x s (f+d)] else []
structure Rw where
 p:Pc
 u:Int
 d:Int
instance:Inhabited Rw:=⟨⟨default,0,0⟩⟩
def qDR(f:Int):Bool:=f.toNat.testBit 2
def jnB(f:Int):Bool:=f.toNat.testBit 4
def qDj(b s:Str):Bool:=if kE b=true then !kE s&& !decide (s= [39]) else true
def mkW(pv:Option Str)(r:Rw):Wd:=⟨r.p.t.text,r.p.c,r.u,r.d,jnB r.p.t.flags&&(match pv with|none=>false|some b=>qDj b r.p.t.text),qDR r.p.t.flags,r.p.t.name⟩
def qhK(L:List Rw)(i:Nat):Option Str:=if i=0 then none else some (L.getD (i-1) default).p.t.text
def bsW(L:List Rw):List Wd:=(List.range L.length).map fun i=>mkW (qhK L i) (L.getD i default)
theorem j9(L:List Rw):(bsW L).length=L.length:=by unfold bsW;simp
theorem qfg{L:List Rw}{i:Nat}(hi:i<L.length):(bsW L).getD i default=mkW (qhK L i) (L.getD i default):=by
 unfold bsW;rw[gdqA,List.getElem?_map,List.getElem?_range hi];rfl
theorem jE{α:Type}{L M:List α}{a:α}{i:Nat}(hi:i<L.length):(L++M).getD i a=L.getD i a:=by
 rw[gdqA,gdqA,List.getElem?_append_left hi]
theorem jQ{α:Type}{L M:List α}{a:α}{i:Nat}:(L++M).getD (L.length+i) a=M.getD i a:=by
 rw[gdqA,gdqA,List.getElem?_append_right om,Nat.add_sub_cancel_left]
theorem qpk(L:List Rw)(r:Rw):bsW (L++ [r])=bsW L++ [mkW (qhK (L++ [r]) L.length) r]:=by
 unfold bsW;rw[lap,lco,lnl,Nat.zero_add,List.range_succ,List.map_append];congr 1
 ·refine List.map_congr_left fun i hi=> ?_
  rw[List.mem_range]at hi;have e1:(L++ [r]).getD i default=L.getD i default:=jE hi;have e2:qhK (L++ [r]) i=qhK L i:=by
   unfold qhK;split
   ·rfl
   ·rw[jE om]
  rw[e1,e2]
 ·have e1:(L++ [r]).getD L.length default=r:=by
   have:=jQ (L:=L) (M:= [r]) (a:=default) (i:=0)
   rw[Nat.add_zero]at this;rw[this];rfl
  rw[List.map_cons,List.map_nil,e1]
theorem qnh(L:List Rw)(r:Rw):qhK (L++ [r]) L.length=if L.length=0 then none else some ((bsW L).getD (L.length-1) default).text:=by
 unfold qhK;split
 ·rfl
 ·rw[jE om,qfg om];rfl
def qba(x:Co)(l:List Un)(d:List Dc)(k:Nat):Nat→Int
 |0=> -1
 |n+1=>if km x l (d.getD n default)=k then (n:Int) else qba x l d k n
def frN(l:List Un)(k:Nat):Nat:=(l.getD k default).frm.toNat
def toN(l:List Un)(k:Nat):Nat:=(l.getD k default).to.toNat
def jU(l:List Un)(k:Nat):Nat:=if k=0 then 0 else toN l (k-1)
def qo2(x:Co)(l:List Un)(k:Nat)(o:Dc):List Pc:=
 if o.kind=1 then spk x (zP x o.sig).toNat (frN l k) (toN l k-frN l k) else if o.kind=2 then (qf2 o.txt).map (fun t=>⟨t,(l.getD k default).frm⟩) else []
def rwM(ps:List Pc)(u d:Int):List Rw:=ps.map fun p=>⟨p,u,d⟩
def rwC(x:Co)(s f t:Nat):List Rw:=rwM (spk x s f (t-f)) (-1) (-1)
def rwU(x:Co)(l:List Un)(d:List Dc)(s k:Nat):List Rw:=
 if qba x l d k d.length<0 then rwM (spk x s (frN l k) (toN l k-frN l k)) k (-1)
 else rwM (qo2 x l k (d.getD (qba x l d k d.length).toNat default)) k (qba x l d k d.length)
def rwL(x:Co)(l:List Un)(d:List Dc)(s:Nat):Nat→List Rw
 |0=> []
 |k+1=>rwL x l d s k++(rwC x s (jU l k) (frN l k)++rwU x l d s k)
def rwA(x:Co)(l:List Un)(d:List Dc)(s:Nat):List Rw:=rwL x l d s l.length++rwC x s (jU l l.length) x.col.length
def esE(x:Co)(l:List Un)(d:List Dc)(s:Int):Int:=
 if vaE x l≠0 then vaE x l else if s<0∨(x.sig.length:Int)≤s then 2 else if qbH x l d≠0 then qbH x l d else if 1024<(rwA x l d s.toNat).length then 4 else 0
def esR(x:Co)(l:List Un)(d:List Dc)(s:Int):List Wd:=if esE x l d s=0 then bsW (rwA x l d s.toNat) else []
theorem qbz(x:Co)(l:List Un)(d:List Dc)(k:Nat): ∀n,-1≤qba x l d k n∧qba x l d k n<n:=by
 intro n
 induction n with
 |zero=>exact⟨Int.le_refl _,by unfold qba;omega⟩
 |succ n ih=>
  unfold qba;split
  ·omega
  ·omega
theorem qmw{x:Co}{l:List Un}{d:List Dc}{k:Nat}: ∀ {n j:Nat},qba x l d k n=j→km x l (d.getD j default)=k:=by
 intro n
 induction n with
 |zero=>intro j h;unfold qba at h;omega
 |succ n ih=>
  intro j h;unfold qba at h;split at h
  ·rename_i g;have e:n=j:=by omega
   rw[←e];exact g
  ·exact ih h
theorem qeN(x:Co)(s f:Nat): ∀d,(spk x s f d).length≤d:=by
 intro d
 induction d with
 |zero=>exact nlr _
 |succ d ih=>
  unfold spk;rw[lap];split
  ·simp only[lco,lnl];omega
  ·simp only[lnl];omega
theorem qmA{x:Co}{s f:Nat}{p:Pc}: ∀ {d:Nat},p∈spk x s f d↔ ∃k,f≤k∧k<f+d∧pcB x s k=true∧p=pcT x s k:=by
 intro d
 induction d with
 |zero=>
  constructor
  ·intro h;cases h
  ·rintro⟨k,h1,h2,_⟩;omega
 |succ d ih=>
  unfold spk;rw[List.mem_append,ih];constructor
  ·rintro (⟨k,h1,h2,h3⟩|h)
   ·exact⟨k,h1,om,h3⟩
   ·split at h
    ·rename_i g;rw[List.mem_singleton]at h;exact⟨f+d,om,om,g,h⟩
    ·cases h
  ·rintro⟨k,h1,h2,h3,h4⟩
   by_cases e:k<f+d
   ·exact .inl ⟨k,h1,e,h3,h4⟩
   ·have e:k=f+d:=by omega
    subst e;rw[ipo h3];exact .inr (List.mem_singleton.2 h4)
theorem jJ(ps:List Pc)(u d:Int):(rwM ps u d).length=ps.length:=by unfold rwM;rw[List.length_map]
theorem jS{ps:List Pc}{u d:Int}{r:Rw}:r∈rwM ps u d↔r.p∈ps∧r.u=u∧r.d=d:=by
 unfold rwM;rw[List.mem_map];constructor
 ·rintro⟨p,hp,rfl⟩;exact⟨hp,rfl,rfl⟩
 ·rintro⟨h1,h2,h3⟩;exact⟨r.p,h1,by cases r;cases h2;cases h3;rfl⟩
def qop(b:List Wd):List Str:=b.map (·.text)
theorem qA6{t:Tk}(h:tkE t=0):txB t=true:=by
 unfold tkE at h;split at h
 ·cases h
 split at h
 ·cases h
 split at h
 ·cases h
 rename_i h3;simpa using h3
end RC
end
section
namespace Go.Proofs
open Go.Shelf
end Go.Proofs
end
section
open Go Go.Proofs Go.Sort AF HY LN
namespace RC
end RC
end
section
open Go Go.Proofs AF HY LN
namespace RC
theorem qeg{a b:En}:qc6 a b=false↔a.to≤b.frm∧ ¬(a.frm=b.frm∧a.to=b.to):=by
 unfold qc6;rw[Bool.or_eq_false_iff,decide_eq_false_iff_not,Bool.and_eq_false_iff,decide_eq_false_iff_not,decide_eq_false_iff_not];omega
theorem qDy{L:List En}(hs:L.Pairwise fun a b=>qhi b a=false)(hr: ∀e∈L,e.frm≤e.to)(hc:qaF L=false):L.Pairwise fun a b=>qc6 a b=false:=by
 induction L with
 |nil=>exact List.Pairwise.nil
 |cons a r ih=>
  have h0:=qn8 hs hc;obtain⟨h1,h2⟩:=List.pairwise_cons.1 hs;have h3:=ih h2 (fun e he=>hr e (List.mem_cons_of_mem _ he)) (qdL hc);refine List.pairwise_cons.2 ⟨?_,h3⟩;cases r with
  |nil=>intro z hz;cases hz
  |cons b r=>
   have hab:qc6 a b=false:=by
    rw[qaF,Bool.or_eq_false_iff]at hc;exact hc.1
   intro z hz;have g0:=qbk.1 ((List.pairwise_cons.1 h0).1 z hz);rcases List.mem_cons.1 hz with rfl|hz'
   ·exact hab
   ·have g1:=qeg.1 ((List.pairwise_cons.1 h3).1 z hz');have g2:=qeg.1 hab;have g3:=hr b (by simp);rw[qeg];omega
theorem qhp: ∀ {L:List En},(L.Pairwise fun a b=>qc6 a b=false)→qaF L=false
 | [],_=>rfl
 | [_],_=>rfl
 |a::b::r,h=>by
  obtain⟨h1,h2⟩:=List.pairwise_cons.1 h;rw[qaF,h1 b (by simp),qhp h2];rfl
theorem qi0(names:List Str)(gs:List Gr)(l:List En)(src:Int)(p:En→Bool):ofE names gs (l.filter p) src=(ofE names gs l src).filter p:=by
 have h:=qfr qhk qhj p l [] List.Pairwise.nil;unfold ofE qwI;rw[List.filter_nil]at h;rw[←h,List.filter_reverse,List.filter_reverse,List.filter_reverse,List.filter_filter,List.filter_filter];congr 2;funext x;exact Bool.and_comm _ _
theorem qDu{names:List Str}{gs:List Gr}{t:List Str}{l:List En}(h:qwu names gs t l){s:Nat}(hs:s<names.length):(ofE names gs l (s:Int)).Pairwise fun a b=>qc6 a b=false:=by
 refine qDy (qi1 names gs l s) (fun e he=> ?_) (qa0 h.cl hs);have h1:e∈qwI l:=(List.mem_filter.1 he).1;have h2:=qlp.1 (h.ck e ((qfY l).subset h1));exact h2.rng.2.1
theorem qwu.filter{names:List Str}{gs:List Gr}{t:List Str}{l:List En}(h:qwu names gs t l)(p:En→Bool):qwu names gs t (l.filter p):=
 ⟨h.sg,Nat.le_trans (List.length_filter_le _ _) h.n,fun e he=>h.ck e ((List.mem_filter.1 he).1),qt.2 fun s hs=>by
  rw[qi0]
  exact qhp (List.Pairwise.filter _ (qDu h hs))⟩
end RC
end
section
open Go Go.Proofs AF
end
section
open Go Go.Proofs AF HY LN
namespace RC
end RC
end
section
set_option linter.unusedVariables false
namespace Go.Proofs
open Go.Shelf Go.RowKit Go.Lib
end Go.Proofs
end
section
open Go Go.Proofs AF HY
namespace HY
end HY
end
section
open Go Go.Proofs AF HY LN
namespace HY
end HY
namespace RC
end RC
end
section
open Go Go.Proofs AF HY LN
namespace RC
deriving instance DecidableEq for Va
deriving instance DecidableEq for En
def tkS(s:Str):Tk:=⟨s,s,[],0,0,[]⟩
def qcC:Str:= [100,101,117,115]
def qwG:Str:= [101,115,116]
def qav:Str:= [98,111,110,117,115]
def xCo:Co:=⟨[97],[[65],[66]],[[tkS qcC,tkS qwG,tkS qav],[tkS qcC,tkS qav]],[[0,0],[1,-1],[2,1]]⟩
def xUn:List Un:= [⟨1,2,[⟨[qwG],[0]⟩,⟨[],[1]⟩]⟩]
end RC
end
section
namespace AF
open Go
end AF
end
section
open Go Go.Proofs AF HY LN
namespace RC
theorem il2{f g:Nat→List AV}(h0:f 0=g 0)(h1:f 1=g 1):ILe (.sl 2 f) (.sl 2 g):=ILe.sl_eq fun i hi=>by
 match i,hi with
 |0,_=>exact h0
 |1,_=>exact h1
 |n+2,hi=>exact absurd hi om
theorem il3{f g:Nat→List AV}(h0:f 0=g 0)(h1:f 1=g 1)(h2:f 2=g 2):ILe (.sl 3 f) (.sl 3 g):=ILe.sl_eq fun i hi=>by
 match i,hi with
 |0,_=>exact h0
 |1,_=>exact h1
 |2,_=>exact h2
 |n+3,hi=>exact absurd hi om
theorem vl2{f g:Nat→List AV}(h0:qbi (f 0) (g 0))(h1:qbi (f 1) (g 1)):VLe (.sl 2 f) (.sl 2 g):=VLe.sl fun i hi=>by
 match i,hi with
 |0,_=>exact h0
 |1,_=>exact h1
 |n+2,hi=>exact absurd hi om
theorem vl3{f g:Nat→List AV}(h0:qbi (f 0) (g 0))(h1:qbi (f 1) (g 1))(h2:qbi (f 2) (g 2)):VLe (.sl 3 f) (.sl 3 g):=VLe.sl fun i hi=>by
 match i,hi with
 |0,_=>exact h0
 |1,_=>exact h1
 |2,_=>exact h2
 |n+3,hi=>exact absurd hi om
theorem ie{a b:AV}(h:a=b):ILe a b:=by rw[h];exact ILe.refl _
section
variable {q : En → Bool} {L : List En} {J : Nat}
end
section
variable {k v w : Nat} {h l : List AObj} {ty : TypeId} {cs : List AV}
end
theorem qwt(b:List Wd)(h:List AObj)(hn:b.length≤1000000):ACalls Tryz.prog 37 [kX b] h (strs (qop b)) h:=by
 refine acO qCW ?_;simp (disch:=omega) only[qEi,kX,go_sem];refine qu (T:=fun s:Nat×Nat×AObj×AObj=>ze 19 [(6,kX b),(7,.int .i64 b.length),(8,.int .i64 s.1),(3,.osl (h.length+1) s.2.1 1 0 s.1)])
  (H:=fun s=>h++ [.emp 1,zk s.2.1 9 (qak (qop (b.take s.1))),s.2.2.1,s.2.2.2,.emp 0])
  (inv:=fun s=>s.1≤b.length∧qJ [s.2.2.1] 0=true∧qJ [s.2.2.2] 0=true) (m:=fun s=>b.length-s.1) (0,1,.emp 0,.emp 0) ⟨nzl _,rfl,rfl⟩ (Wk.temps ?_) ?_
 ·(simp only[kX,go_sem,qg,qc,qa,qf];try (repeat' first|(with_reducible apply aiA)|(apply qh;omega)|(apply qe;rfl)|exact qi))
 rintro⟨i,v,O1,O2⟩ ⟨i1,i2,i3⟩ K hK;simp only at i1 i2 i3 hK;have i2': ∀m,qJ (O1::m) 0=true:=fun _=>i2
 have i3': ∀m,qJ (O2::m) 0=true:=fun _=>i3
 have eL:(qop (b.take i)).length=i:=by unfold qop;rw[List.length_map,List.length_take];omega
 by_cases hi:i<b.length
 ·have k1:((i:Int)<b.length)=True:=eqt om;have hS:qop (b.take (i+1))=qop (b.take i)++ [(b.getD i default).text]:=by
   unfold qop;rw[List.take_add_one,zL hi,gdqA,zL hi,List.map_append];rfl
  obtain⟨L,hL⟩: ∃L,L=qop (b.take i):=⟨_,rfl⟩
  rw[←hL]at hS eL ⊢;obtain⟨w,hw⟩: ∃w,w=b.getD i default:=⟨_,rfl⟩
  have ew:=hw.symm;rw[ew]at hS;have eC:=qaX L;have eTk:List.take i (qak L)=qak L:=ltl om;simp (disch:=omega) only[kX,wdC,k1,ew,i2',i3',eC,eL,eTk,Nat.mul_one,go_sem]
  repeat' first
   |with_reducible apply aiA
  all_goals try exact clz
  have eA:qak L++ [AV.str w.text]=qak (L++ [w.text]):=by simp[qak]
  have eD:(AV.str w.text::List.drop 1 (qY [AV.str []] 1))= [AV.str w.text]:=rfl;rw[eA,eD];refine hK _ _ (i+1,v+1,.mem (qo (some O1)+1) 36 (wdC w),.mem (qo (some O2)+1) 9 [.str w.text]) ⟨hi,rfl,rfl⟩ (by simp only;omega) ?_;simp only[hS,wdC];refine Wk.temps ?_
  (simp only[kX,wdC,go_sem,qg,qc,qa,qf];try (repeat' first|(with_reducible apply aiA)|(apply qh;omega)|(apply qe;rfl)|exact qi))
 have k1:((i:Int)<b.length)=False:=eqf om;obtain rfl:i=b.length:=by omega
 rw[List.take_length]at eL ⊢;simp (disch:=omega) only[k1,go_sem]
 repeat' first
  |(apply qb;exact rvk;simp only[go_sem])
 exact qeI (fun _=>rfl) eL.symm
def qE9(names:List Str)(gs:List Gr)(p:Un)(v:Va):Bool:=decide (qiG names gs v.sigla=0)&&ju (fun j=>decide ((p.rds.getD j default).words=v.words)&&decide ((p.rds.getD j default).src=qdr names gs v.sigla)) p.rds.length
def qEM(p:Un)(w:List Str):Nat→List Int
 |0=> []
 |j+1=>if (p.rds.getD j default).words=w then (p.rds.getD j default).src else qEM p w j
def okB(names:List Str)(gs:List Gr)(w:List Str)(p:Un)(e:En):Bool:=
 if ju (fun j=> !qE9 names gs p (e.vars.getD j default)) e.vars.length=true then false else if e.pos=false then decide (e.sup.length=0) else
  decide (qiG names gs e.sup=0)&&decide (qdr names gs e.sup=qEM p (qo3 w e.frm.toNat e.to.toNat) p.rds.length)
def jl(L:List Wd):List AV:=L.flatMap wdC
theorem qhc(e:Wd):(wdC e).length=7:=rfl
theorem qe1(L:List Wd):(jl L).length=L.length*7:=by
 unfold jl
 induction L with
 |nil=>rfl
 |cons a L ih=>rw[List.flatMap_cons,lap,ih,lco,qhc];omega
theorem qie(A B:List Wd):jl (A++B)=jl A++jl B:=by simp[jl]
theorem qig(a:Wd):jl [a]=wdC a:=by simp[jl]
theorem qoU(L:List Wd): ∀i,(jl L).drop (i*7)=jl (L.drop i):=by
 induction L with
 |nil=>intro i;simp[jl]
 |cons a L ih=>
  intro i;cases i with
  |zero=>simp
  |succ i=>
   have e:jl (a::L)=wdC a++jl L:=rfl;rw[List.drop_succ_cons,e,List.drop_append,qhc,show (i+1)*7-7=i*7 by omega,ih];rw[List.drop_eq_nil_of_le (by rw[qhc];omega)];rfl
theorem qif{L:List Wd}{i:Nat}(hi:i<L.length):((jl L).drop (i*7)).take 7=wdC (L.getD i default):=by
 rw[qoU,List.drop_eq_getElem_cons hi,gdqA,zL hi];rfl
theorem qcW(L:List Wd)(n:Nat): ∀c∈jl L,qV n c=true:=by
 intro c hc;unfold jl at hc;obtain⟨x,_,hx⟩:=List.mem_flatMap.1 hc;simp only[wdC,List.mem_cons,List.not_mem_nil,or_false]at hx;rcases hx with rfl|rfl|rfl|rfl|rfl|rfl|rfl<;>rfl
section
variable {q : Wd → Bool} {L : List Wd} {J : Nat}
end
end RC
end
section
open Go Go.Proofs AF
def zM:List Nat:= []
def qxE:C:=
 ((C.ops [⟨some 2,none,.alloc 0 33 [i6 0],[]⟩]).seq ((C.ops [⟨some 3,none,.alloc 1 3 [i6 0],[]⟩,⟨none,none,.store 1,[.t 3,.c (i6 4096)]⟩]).seq ((C.ops [O1 8 (.mkfn
 (Fn.func 247) 0) 3,⟨some 4,none,.alloc 2 32 [.nilfn],[]⟩,ST 1 4 8]).seq (((C.ops [MV 9 0,O1 10 (.call 248 true) 9]).seq (C.block 0 (C.range (.t 10) [11] (C.ops [⟨some 5,
 none,.alloc 3 278 [i6 0,.str [],i6 0,.nl,i6 0,.bool false],[]⟩,ST 6 5 11]) (C.block 1 ((C.ops [LD 12 4,O1 13 .callv 12,O1 14 (.un UnOp.not) 13,MV 15 14,P1 16 15 false
 (.fldA 4) 5,P1 17 15 false (.load none) 16,PC 18 15 false (.bin .geq) 17 (i6 16),MG 19 15 false 18,P1 20 19 true (.fldA 0) 5,P1 21 19 true (.fldA 3) 20,P1 22 19 true (.load
 none) 21,P1 23 19 true .len 22,PC 24 19 true (.bin .gtr) 23 (i6 0),QF 25 15 false 19 24,PT 26 15 25]).seq (C.cond (.t 26) ((C.ops [⟨none,none,.store 1,[.t 2,.c (i6
 4)]⟩]).seq C.ret) C.skip)))))).seq (((C.ops [MV 27 0,O1 28 (.call 248 true) 27]).seq (C.block 2 (C.range (.t 28) [29] (C.ops [⟨some 6,none,.alloc 4 278 [i6 0,.str [],i6 0,
 .nl,i6 0,.bool false],[]⟩,ST 6 6 29]) (C.block 3 ((C.ops [O1 30 (.load (some 6)) 6,O1 31 (.call 249 true) 30,MV 7 31]).seq ((C.ops [MV 32 7,BC 33 .neq 32 (i6 0)]).seq
 (C.cond (.t 33) ((C.ops [MV 34 7,ST 1 2 34]).seq C.ret) C.skip))))))).seq (((C.ops [MV 35 0,O1 36 (.call 250 true) 35,O1 37 .slen 36,BC 38 .gtr 37 (i6 65536)]).seq (C.cond (.t
 38) ((C.ops [⟨none,none,.store 1,[.t 2,.c (i6 4)]⟩]).seq C.ret) C.skip)).seq ((C.ops [⟨none,none,.store 1,[.t 2,.c (i6 0)]⟩]).seq
 C.ret)))))))
theorem qzg:qM Tryz.prog 218 39 5 [RV.cell 2 none] qxE:=fi Tryz.f218 [2,3,4,5,6] zM []
def qxO:C:=
 ((C.ops [MC 1 (.bool false)]).seq ((C.ops [LD 2 0,BC 3 .sub 2 (i6 1),ST 1 0 3]).seq ((C.ops [LD 4 0,BC 5 .geq 4 (i6 0),MV 1 5]).seq
 C.ret)))
theorem qzr:qM Tryz.prog 247 6 0 [RV.tmp 1] qxO:=fi Tryz.f247 [] zM []
def qxP:C:=
 ((C.ops [O1 1 (.box 0 187) 0,MC 2 .nilfn]).seq ((C.ops [O1 3 (.mkfn (Fn.func 275) 0) 1,MV 2 3]).seq
 C.ret))
theorem qzs:qM Tryz.prog 248 4 1 [RV.tmp 2] qxP:=fi Tryz.f248 [1] zM []
def qxX:C:=
 ((C.ops [O1 2 (.box 0 297) 0]).seq ((C.ops [⟨some 3,none,.alloc 1 298 [.nilfn],[]⟩]).seq ((C.ops [O2 4 (.mkfn (Fn.func 276) 0) 2 3,ST 1 3 4]).seq (C.ops [LD 5 3,LD 6 1,ON 7
 .callv [.t 5,.t 6,.c (i6
 0)]]))))
theorem qzA:qM Tryz.prog 275 8 2 [] qxX:=fi Tryz.f275 [2,3] zM []
def qtB:C:=
 ((C.ops [MC 6 (.bool false)]).seq ((C.ops [MC 7 (.bool false)]).seq (((C.ops [MV 10 0,O1 11 .len 10,MC 12 (i6 0)]).seq (C.block 0 ((C.ops [BI 13 .lss 12 11]).seq ((C.cond (.t 13)
 C.skip (C.exit 0)).seq ((C.block 1 ((C.ops [O2 14 (.idxA 4) 10 12,O1 15 (.load (some 4)) 14,⟨some 9,none,.alloc 0 189 [i6 0,.str [],i6 0,.nl],[]⟩,ST 4 9 15]).seq (((C.ops
 [LD 16 2,O1 17 (.load (some 4)) 9,MV 18 1,MV 19 7,⟨some 20,none,.build [i6 0,.str [],i6 0,.nl,i6 0,.bool false] [(0,4),(4,1),(5,1)],[.t 17,.t 18,.t 19]⟩,O2 21
 .callv 16 20,O1 22 (.un UnOp.not) 21,MV 23 22,MG 24 23 false 1,PC 25 23 false (.bin .leq) 24 (i6 16),MG 26 23 false 25,P1 27 26 true (.load none) 3,P1 28 26 true (.fldA 3)
 9,P1 29 26 true (.load none) 28,MG 30 26 true 1,PC 31 26 true (.bin .add) 30 (i6 1),PN 32 26 true .callv [.t 27,.t 29,.t 31],P1 33 26 true (.un UnOp.not) 32,QF 34 23 false
 26 33,PT 35 23 34]).seq (C.cond (.t 35) ((C.ops [MC 6 (.bool false)]).seq C.ret) C.skip)).seq (C.ops [O1 36 (.fldA 0) 9,LD 37 36,BC 38 .eql 37 (i6 1),MV 7 38])))).seq (C.ops
 [BC 39 .add 12 (i6 1),MV 12 39])))).loop)).seq ((C.ops [MC 6 (.bool true)]).seq
 C.ret))))
theorem qsA:qM Tryz.prog 276 40 1 [RV.tmp 6] qtB:=fi Tryz.f276 [9] zM []
def qxQ:C:=
 ((C.ops [O1 1 (.box 0 278) 0,MC 2 (i6 0)]).seq ((C.ops [O1 6 (.fldA 0) 1,O1 7 (.load (some 4)) 6,⟨some 3,none,.alloc 1 189 [i6 0,.str [],i6 0,.nl],[]⟩,ST 4 3 7]).seq
 (((C.ops [O1 8 (.fldA 0) 3,LD 9 8,BC 10 .lss 9 (i6 1),MV 11 10,P1 12 11 false (.fldA 0) 3,P1 13 11 false (.load none) 12,PC 14 11 false (.bin .gtr) 13 (i6 11),PT 15 11
 14]).seq (C.cond (.t 15) ((C.ops [MC 2 (i6 8)]).seq C.ret) C.skip)).seq ((C.ops [O1 16 (.fldA 0) 3,LD 17 16,O1 18 (.gix 3 12 4) 17,O1 19 (.load (some 4)) 18,⟨some 4,none,
 .alloc 2 300 [.str [],.bool false,.bool false,.bool false],[]⟩,ST 4 4 19]).seq ((C.ops [O1 20 (.fldA 0) 3,LD 21 20,BC 22 .eql 21 (i6 6),MV 5 22]).seq ((C.block 0 ((C.ops
 [O1 24 (.fldA 1) 4,LD 25 24,O1 26 (.un UnOp.not) 25,MV 27 26,P1 28 27 true (.fldA 1) 3,P1 29 27 true (.load none) 28,PC 30 27 true (.bin .neq) 29 (.str []),PF 31 27 30,MV
 32 31,P1 33 32 false (.fldA 2) 4,P1 34 32 false (.load none) 33,P1 35 32 false (.un UnOp.not) 34,MG 36 32 false 35,P1 37 36 true (.fldA 2) 3,P1 38 36 true (.load none) 37,PC
 39 36 true (.bin .neq) 38 (i6 0),QF 40 32 false 36 39,PT 41 32 40,MV 42 41,P1 43 42 false (.fldA 3) 4,P1 44 42 false (.load none) 43,P1 45 42 false (.un UnOp.not) 44,MG 46
 42 false 45,P1 47 46 true (.fldA 3) 3,P1 48 46 true (.load none) 47,P1 49 46 true .len 48,PC 50 46 true (.bin .gtr) 49 (i6 0),QF 51 42 false 46 50,PT 52 42 51,MV 23 52]).seq
 (C.cond (.t 23) ((C.ops [MC 2 (i6 8)]).seq C.ret) ((C.ops [O1 54 (.fldA 0) 3,LD 55 54,BC 56 .eql 55 (i6 1),MV 57 56,P1 58 57 true (.fldA 1) 3,P1 59 57 true (.load none) 58,PC
 60 57 true (.bin .eql) 59 (.str []),PF 61 57 60,MV 62 61,P1 63 62 false (.fldA 3) 4,P1 64 62 false (.load none) 63,MG 65 62 false 64,P1 66 65 true (.fldA 3) 3,P1 67 65 true
 (.load none) 66,P1 68 65 true .len 67,PC 69 65 true (.bin .eql) 68 (i6 0),QF 70 62 false 65 69,PT 71 62 70,MV 53 71]).seq (C.cond (.t 53) ((C.ops [MC 2 (i6 5)]).seq C.ret)
 ((C.ops [O1 73 (.fldA 0) 3,LD 74 73,BC 75 .eql 74 (i6 1),MV 76 75,P1 77 76 true (.fldA 1) 3,P1 78 76 true (.load none) 77,P1 79 76 true (.call 172 true) 78,PC 80 76 true
 (.bin .neq) 79 (i6 0),PF 81 76 80,MV 72 81]).seq (C.cond (.t 72) ((C.ops [MC 2 (i6 11)]).seq C.ret) (((C.ops [O1 83 (.fldA 0) 3,LD 84 83,BC 85 .eql 84 (i6 10),MV 86 85,P1 87
 86 true (.fldA 1) 3,P1 88 86 true (.load none) 87,P1 89 86 true (.call 129 true) 88,P1 90 86 true (.un UnOp.not) 89,PF 91 86 90,MV 82 91]).seq (C.cond (.t 82) C.skip (C.ops
 [O1 92 (.fldA 1) 4,LD 93 92,MV 94 93,P1 95 94 true (.fldA 0) 3,P1 96 94 true (.load none) 95,PC 97 94 true (.bin .neq) 96 (i6 1),PF 98 94 97,MV 99 98,P1 100 99 true (.fldA
 0) 3,P1 101 99 true (.load none) 100,PC 102 99 true (.bin .neq) 101 (i6 10),PF 103 99 102,MV 104 103,P1 105 104 true (.fldA 1) 3,P1 106 104 true (.load none) 105,P1 107 104
 true (.call 158 true) 106,P1 108 104 true (.un UnOp.not) 107,PF 109 104 108,MV 82 109]))).seq (C.cond (.t 82) ((C.ops [MC 2 (i6 14)]).seq C.ret) (((C.ops [O1 111 (.fldA 2) 4,LD
 112 111,MV 113 112,P1 114 113 true (.fldA 2) 3,P1 115 113 true (.load none) 114,PC 116 113 true (.bin .lss) 115 (i6 1),PF 117 113 116,MV 110 117]).seq (C.cond (.t 110) C.skip
 ((C.ops [MV 118 5,MV 119 118,P1 120 119 true (.fldA 2) 3,P1 121 119 true (.load none) 120,PC 122 119 true (.bin .gtr) 121 (i6 64),PF 123 119 122,MV 110 123]).seq (C.cond (.t
 110) C.skip (C.ops [O1 124 (.fldA 2) 4,LD 125 124,MV 126 125,MG 127 126 true 5,P1 128 126 true (.un UnOp.not) 127,PF 129 126 128,MV 130 129,P1 131 130 true (.fldA 2) 3,P1
 132 130 true (.load none) 131,PC 133 130 true (.bin .gtr) 132 (i6 8),PF 134 130 133,MV 110 134]))))).seq (C.cond (.t 110) ((C.ops [MC 2 (i6 2)]).seq C.ret) ((C.ops [O1 136
 (.fldA 0) 3,LD 137 136,BC 138 .eql 137 (i6 1),MV 139 138,P1 140 139 true (.fldA 5) 1,P1 141 139 true (.load none) 140,PF 142 139 141,MV 135 142]).seq (C.cond (.t 135)
 ((C.ops [MC 2 (i6 10)]).seq C.ret) ((C.ops [O1 144 (.fldA 0) 3,LD 145 144,BC 146 .eql 145 (i6 4),MV 147 146,P1 148 147 true (.fldA 4) 1,P1 149 147 true (.load none) 148,PC
 150 147 true (.bin .gtr) 149 (i6 0),PF 151 147 150,MV 143 151]).seq (C.cond (.t 143) ((C.ops [MC 2 (i6 12)]).seq C.ret) C.skip))))))))))))))).seq ((C.ops [MC 2 (i6 0)]).seq
 C.ret)))))))
theorem qzt:qM Tryz.prog 249 152 3 [RV.tmp 2] qxQ:=fi Tryz.f249 [1,3,4] zM []
def qxG:C:=
 ((C.ops [O1 3 (.box 0 3) 1,MC 4 (i6 0),MC 5 (i6 0)]).seq (((C.ops [MV 8 0,O1 9 (.call 218 true) 8,BC 10 .neq 9 (i6 0)]).seq (C.cond (.t 10) ((C.ops [MC 4 (i6 0),MC 5 (i6
 1)]).seq C.ret) C.skip)).seq (((C.ops [LD 11 3,BC 12 .lss 11 (i6 1),MV 13 12,P1 14 13 false (.load none) 3,PC 15 13 false (.bin .gtr) 14 (i6 11),PT 16 13 15]).seq (C.cond (.t
 16) ((C.ops [MC 4 (i6 0),MC 5 (i6 8)]).seq C.ret) C.skip)).seq ((C.ops [⟨some 6,none,.alloc 1 3 [i6 0],[]⟩,⟨none,none,.store 1,[.t 6,.c (i6 0)]⟩]).seq (((C.ops [MV 17 0,
 O1 18 (.call 248 true) 17]).seq (C.block 0 (C.range (.t 18) [19] (C.ops [⟨some 7,none,.alloc 2 278 [i6 0,.str [],i6 0,.nl,i6 0,.bool false],[]⟩,ST 6 7 19]) (C.block 1
 ((C.ops [O1 20 (.fldA 0) 7,O1 21 (.fldA 0) 20,LD 22 21,LD 23 3,BI 24 .eql 22 23]).seq (C.cond (.t 24) (C.ops [LD 25 6,BC 26 .add 25 (i6 1),ST 1 6 26]) C.skip)))))).seq
 ((C.ops [LD 27 6,MV 4 27,MC 5 (i6 0)]).seq
 C.ret))))))
theorem qzi:qM Tryz.prog 220 28 3 [RV.tmp 4,RV.tmp 5] qxG:=fi Tryz.f220 [3,6,7] zM []
def qxF:C:=
 ((C.ops [MC 2 (i6 0)]).seq (((C.ops [MV 6 0,O1 7 .len 6,BC 8 .gtr 7 (i6 64)]).seq (C.cond (.t 8) ((C.ops [MC 2 (i6 4)]).seq C.ret) C.skip)).seq (((C.ops [MV 9 0,O1 10 .len 9,MC
 11 (i6 0)]).seq (C.block 0 ((C.ops [BI 12 .lss 11 10]).seq ((C.cond (.t 12) C.skip (C.exit 0)).seq ((C.block 1 ((C.ops [O2 13 (.idxA 2) 9 11,O1 14 (.load (some 2)) 13,⟨some 4,
 none,.alloc 0 261 [.str [],.str []],[]⟩,ST 2 4 14]).seq ((C.ops [O1 15 (.load (some 2)) 4,O1 16 (.call 251 true) 15,MV 5 16]).seq ((C.ops [MV 17 5,BC 18 .neq 17 (i6 0)]).seq
 (C.cond (.t 18) ((C.ops [MV 19 5,MV 2 19]).seq C.ret) C.skip))))).seq (C.ops [BC 20 .add 11 (i6 1),MV 11 20])))).loop)).seq ((C.ops [MC 2 (i6 0)]).seq
 C.ret))))
theorem qzh:qM Tryz.prog 219 21 1 [RV.tmp 2] qxF:=fi Tryz.f219 [4] zM []
def qxW:C:=
 ((C.ops [MC 4 (.str []),MC 5 (i6 0)]).seq ((C.ops [MV 9 0,MV 10 1,O2 11 (.call 281 true) 9 10,MV 8 11,O1 12 (.ext 0) 8,O1 13 (.ext 1) 8,MV 6 12,MV 7 13]).seq (((C.ops [MV
 14 7,BC 15 .neq 14 (i6 0)]).seq (C.cond (.t 15) ((C.ops [MV 16 7,MC 4 (.str []),MV 5 16]).seq C.ret) C.skip)).seq ((C.ops [MV 17 6,MV 18 6,O1 19 .len 18,BC 20 .sub 19 (i6 1),
 O2 21 (.idxA 1) 17 20,LD 22 21,MV 4 22,MC 5 (i6 0)]).seq
 C.ret))))
theorem qzz:qM Tryz.prog 258 23 0 [RV.tmp 4,RV.tmp 5] qxW:=fi Tryz.f258 [] zM []
def qx1:C:=
 ((C.ops [ON 4 (.nilo 0 1 9) [],MC 5 (i6 0)]).seq (((C.ops [MV 7 0,MV 8 1,O2 9 (.call 294 true) 7 8,MV 6 9]).seq ((C.ops [MV 10 6,BC 11 .neq 10 (i6 0)]).seq (C.cond (.t 11)
 ((C.ops [MV 12 6,ON 4 (.nilo 0 1 9) [],MV 5 12]).seq C.ret) C.skip))).seq ((C.ops [MV 13 0,MV 14 1,O2 15 (.call 295 true) 13 14,O1 16 (.ext 0) 15,O1 17 (.ext 1) 15,MV 4 16,
 MV 5 17]).seq
 C.ret)))
theorem qzE:qM Tryz.prog 281 18 1 [RV.tmp 4,RV.tmp 5] qx1:=fi Tryz.f281 [4] zM []
def qx3:C:=
 ((C.ops [ON 4 (.nilo 0 1 9) [],MC 5 (i6 0)]).seq ((C.ops [MV 9 1,⟨some 10,none,.bslc 1 1 1 9 [.str []] [(0,1)],[.t 9]⟩,MV 6 10]).seq (C.block 0 (C.block 1 ((C.ops [MV 12 0,
 MV 13 6,MV 14 6,O1 15 .len 14,BC 16 .sub 15 (i6 1),O2 17 (.idxA 1) 13 16,LD 18 17,O2 19 (.call 303 true) 12 18,MV 11 19,O1 20 (.ext 0) 11,O1 21 (.ext 1) 11,MV 7 20,MV 8
 21]).seq (((C.ops [MV 22 8,O1 23 (.un UnOp.not) 22]).seq (C.cond (.t 23) ((C.ops [MV 24 6,MV 4 24,MC 5 (i6 0)]).seq C.ret) C.skip)).seq (((C.ops [MV 25 6,O1 26 .len 25,BC 27
 .eql 26 (i6 4096)]).seq (C.cond (.t 27) ((C.ops [ON 4 (.nilo 0 1 9) [],MC 5 (i6 4)]).seq C.ret) C.skip)).seq (C.ops [MV 28 6,MV 29 7,⟨some 30,none,.bslc 2 1 1 9 [.str []] [(0,
 1)],[.t 29]⟩,O2 31 (.app 3 1 9 16) 28 30,MV 6
 31]))))).loop)))
theorem qzG:qM Tryz.prog 295 32 4 [RV.tmp 4,RV.tmp 5] qx3:=fi Tryz.f295 [4,10,30,31] zM []
def qx2:C:=
 ((C.ops [MC 4 (i6 0)]).seq ((C.block 0 ((C.ops [MV 6 0,O1 7 (.call 219 true) 6,BC 8 .neq 7 (i6 0),MV 5 8]).seq (C.cond (.t 5) ((C.ops [MC 4 (i6 1)]).seq C.ret) ((C.ops [MV 10 1,
 O1 11 .slen 10,BC 12 .gtr 11 (i6 64),MV 9 12]).seq (C.cond (.t 9) ((C.ops [MC 4 (i6 4)]).seq C.ret) ((C.ops [MV 14 1,O1 15 (.call 279 true) 14,O1 16 (.un UnOp.not) 15,MV 13
 16]).seq (C.cond (.t 13) ((C.ops [MC 4 (i6 11)]).seq C.ret) C.skip))))))).seq ((C.ops [MC 4 (i6 0)]).seq
 C.ret)))
theorem qzF:qM Tryz.prog 294 17 0 [RV.tmp 4] qx2:=fi Tryz.f294 [] zM []
def qxZ:C:=
 ((C.ops [MC 2 (.bool false)]).seq (((C.ops [MV 4 0,O1 5 .slen 4,MC 6 (i6 0)]).seq (C.block 0 ((C.ops [BI 7 .lss 6 5]).seq ((C.cond (.t 7) C.skip (C.exit 0)).seq ((C.block 1
 ((C.ops [MV 8 6,MV 3 8]).seq ((C.ops [MV 9 0,MV 10 3,O2 11 .sidx 9 10,O1 12 (.call 176 true) 11]).seq (C.block 2 (((C.ops [BC 14 .eql 12 (i6 1),MV 13 14]).seq (C.cond (.t 13)
 C.skip ((C.ops [BC 15 .eql 12 (i6 2),MV 13 15]).seq (C.cond (.t 13) C.skip ((C.ops [BC 16 .eql 12 (i6 3),MV 13 16]).seq (C.cond (.t 13) C.skip (C.ops [BC 17 .eql 12 (i6 4),MV 13
 17]))))))).seq (C.cond (.t 13) C.skip ((C.ops [MC 2 (.bool false)]).seq C.ret))))))).seq (C.ops [BC 18 .add 6 (i6 1),MV 6 18])))).loop)).seq ((C.ops [MC 2 (.bool true)]).seq
 C.ret)))
theorem qzC:qM Tryz.prog 279 19 0 [RV.tmp 2] qxZ:=fi Tryz.f279 [] zM []
def qx4:C:=
 ((C.ops [⟨some 4,none,.alloc 0 9 [.str []],[]⟩,⟨some 5,none,.alloc 1 4 [.bool false],[]⟩]).seq (((C.ops [MV 7 0,MV 8 1,O2 9 (.call 306 true) 7 8]).seq (C.block 0 (C.range
 (.t 9) [10] (C.ops [MV 6 10]) (C.block 1 ((C.ops [MV 11 6,ST 1 4 11,⟨none,none,.store 1,[.t 5,.c (.bool true)]⟩]).seq C.ret))))).seq ((C.ops [MV 12 1,ST 1 4 12,⟨none,none,
 .store 1,[.t 5,.c (.bool false)]⟩]).seq
 C.ret)))
theorem qzI:qM Tryz.prog 303 13 2 [RV.cell 4 none,RV.cell 5 none] qx4:=fi Tryz.f303 [4,5] zM []
def qx5:C:=
 ((C.ops [O1 2 (.box 0 224) 0,O1 3 (.box 1 9) 1,MC 4 .nilfn]).seq ((C.ops [O2 5 (.mkfn (Fn.func 307) 0) 3 2,MV 4 5]).seq
 C.ret))
theorem qzJ:qM Tryz.prog 306 6 2 [RV.tmp 4] qx5:=fi Tryz.f306 [2,3] zM []
def qx6:C:=
 ((C.ops [LD 9 1,O1 10 .slen 9,MC 11 (i6 0)]).seq (C.block 0 ((C.ops [BI 12 .lss 11 10]).seq ((C.cond (.t 12) C.skip (C.exit 0)).seq ((C.block 1 ((C.ops [MV 13 11,MV 4 13]).seq
 ((C.ops [LD 14 2,O1 15 .len 14,MC 16 (i6 0)]).seq (C.block 2 ((C.ops [BI 17 .lss 16 15]).seq ((C.cond (.t 17) C.skip (C.exit 2)).seq ((C.block 3 ((C.ops [O2 18 (.idxA 2) 14 16,
 O1 19 (.load (some 2)) 18,⟨some 6,none,.alloc 0 261 [.str [],.str []],[]⟩,ST 2 6 19]).seq ((C.ops [LD 21 1,MV 22 4,O2 23 (.sslc true false) 21 22,O1 24 (.fldA 0) 6,LD 25
 24,O2 26 (.call 308 true) 23 25,MV 20 26,O1 27 (.ext 0) 20,O1 28 (.ext 1) 20,MV 7 27,MV 8 28]).seq ((C.ops [MV 29 8,MV 30 29,MG 31 30 true 0,P1 32 30 true (.load none) 1,
 MG 33 30 true 4,P2 34 30 true (.sslc false true) 32 33,P1 35 30 true (.fldA 1) 6,P1 36 30 true (.load none) 35,P2 37 30 true (.bin .add) 34 36,MG 38 30 true 7,P2 39 30 true
 (.bin .add) 37 38,P2 40 30 true .callv 31 39,P1 41 30 true (.un UnOp.not) 40,PF 42 30 41]).seq (C.cond (.t 42) C.ret C.skip))))).seq (C.ops [BC 43 .add 16 (i6 1),MV 16
 43])))).loop)))).seq (C.ops [BC 44 .add 11 (i6 1),MV 11
 44])))).loop))
theorem qzK:qM Tryz.prog 307 45 1 [] qx6:=fi Tryz.f307 [6] zM []
def qxH:C:=
 ((C.ops [O1 2 (.box 0 101) 0,O1 3 (.box 1 187) 1,MC 4 .nilfn]).seq ((C.ops [O2 5 (.mkfn (Fn.func 252) 0) 2 3,MV 4 5]).seq
 C.ret))
theorem qzj:qM Tryz.prog 221 6 2 [RV.tmp 4] qxH:=fi Tryz.f221 [2,3] zM []
def qxS:C:=
 ((C.ops [O1 3 (.box 0 281) 0]).seq ((C.ops [O1 6 (.load (some 2)) 1,⟨some 7,none,.build [i6 0,.int .u8 0,i6 0,.str [],i6 0,.bool false,.str []] [(3,2)],[.t 6]⟩,⟨some 4,
 none,.alloc 1 253 [i6 0,.int .u8 0,i6 0,.str [],i6 0,.bool false,.str []],[]⟩,ST 7 4 7]).seq ((C.ops [⟨some 5,none,.alloc 2 282 [.nilfn],[]⟩]).seq ((C.ops [ON 8 (.mkfn
 (Fn.func 253) 0) [.t 4,.t 3,.t 5],ST 1 5 8]).seq (C.ops [LD 9 5,LD 10 2,O2 11 .callv 9
 10])))))
theorem qzv:qM Tryz.prog 252 12 3 [] qxS:=fi Tryz.f252 [3,4,5] zM []
def qxT:C:=
 ((C.ops [MC 5 (.bool false)]).seq (((C.ops [MV 11 0,O1 12 .len 11,MC 13 (i6 0)]).seq (C.block 0 ((C.ops [BI 14 .lss 13 12]).seq ((C.cond (.t 14) C.skip (C.exit 0)).seq ((C.block
 1 ((C.ops [O2 15 (.idxA 4) 11 13,O1 16 (.load (some 4)) 15,⟨some 7,none,.alloc 0 189 [i6 0,.str [],i6 0,.nl],[]⟩,ST 4 7 16]).seq ((C.draw (DT.one ⟨some 17,none,.fldA 0,
 [.t 7]⟩ (DT.one ⟨some 18,none,.load none,[.t 17]⟩ (DT.one ⟨some 21,none,.fldA 0,[.t 1]⟩ ((DT.one ⟨some 19,none,.fldA 2,[.t 7]⟩ ((DT.one ⟨some 20,none,.load none,[.t
 19]⟩ (DT.one ⟨none,none,.store 1,[.t 21,.t 18]⟩ (DT.one ⟨some 22,none,.fldA 2,[.t 1]⟩ (DT.one ⟨none,none,.store 1,[.t 22,.t 20]⟩ DT.nil)))).two (DT.one ⟨none,none,
 .store 1,[.t 21,.t 18]⟩ (DT.one ⟨some 20,none,.load none,[.t 19]⟩ (DT.one ⟨some 22,none,.fldA 2,[.t 1]⟩ (DT.one ⟨none,none,.store 1,[.t 22,.t 20]⟩ DT.nil)))))).two
 (DT.one ⟨none,none,.store 1,[.t 21,.t 18]⟩ (DT.one ⟨some 19,none,.fldA 2,[.t 7]⟩ (DT.one ⟨some 20,none,.load none,[.t 19]⟩ (DT.one ⟨some 22,none,.fldA 2,[.t 1]⟩
 (DT.one ⟨none,none,.store 1,[.t 22,.t 20]⟩ DT.nil)))))))))).seq ((C.ops [O1 23 (.fldA 0) 7,LD 24 23]).seq (C.block 2 ((C.ops [BC 53 .eql 24 (i6 2),MV 52 53]).seq (C.cond (.t
 52) (C.ops [O1 54 (.fldA 3) 1,O1 55 (.fldA 1) 54,LD 56 55,BC 57 .add 56 (i6 1),O1 58 (.fldA 3) 1,O1 59 (.fldA 1) 58,ST 1 59 57]) ((C.ops [BC 61 .eql 24 (i6 3),MV 60 61]).seq
 (C.cond (.t 60) (C.ops [O1 62 (.fldA 1) 7,LD 63 62,⟨some 64,none,.build [.str [],i6 0] [(0,1)],[.t 63]⟩,O1 65 (.fldA 3) 1,ST 2 65 64]) ((C.ops [BC 67 .eql 24 (i6 1),MV 66
 67]).seq (C.cond (.t 66) ((C.ops [O1 68 (.fldA 1) 7,LD 69 68,O1 70 .slen 69,MC 71 (i6 0)]).seq (C.block 3 ((C.ops [BI 72 .lss 71 70]).seq ((C.cond (.t 72) C.skip (C.exit 3)).seq
 ((C.block 4 ((C.ops [MV 73 71,MV 8 73]).seq ((C.ops [O1 74 (.fldA 1) 7,LD 75 74,MV 76 8,O2 77 .sidx 75 76,O1 78 (.fldA 1) 1,ST 1 78 77]).seq ((C.ops [LD 79 2,O1 80 (.load
 (some 7)) 1,O2 81 .callv 79 80,O1 82 (.un UnOp.not) 81]).seq (C.cond (.t 82) ((C.ops [MC 5 (.bool false)]).seq C.ret) C.skip))))).seq (C.ops [BC 83 .add 71 (i6 1),MV 71
 83])))).loop)) (((C.ops [BC 85 .eql 24 (i6 6),MV 84 85]).seq (C.cond (.t 84) C.skip ((C.ops [BC 86 .eql 24 (i6 5),MV 84 86]).seq (C.cond (.t 84) C.skip (C.ops [BC 87 .eql 24 (i6
 4),MV 84 87]))))).seq (C.cond (.t 84) ((C.ops [LD 88 2,O1 89 (.load (some 7)) 1,O2 90 .callv 88 89,O1 91 (.un UnOp.not) 90]).seq (C.cond (.t 91) ((C.ops [MC 5 (.bool
 false)]).seq C.ret) C.skip)) ((C.ops [O1 25 (.load (some 7)) 1,⟨some 9,none,.alloc 1 253 [i6 0,.int .u8 0,i6 0,.str [],i6 0,.bool false,.str []],[]⟩,ST 7 9 25]).seq
 ((C.ops [O1 26 (.fldA 5) 1,LD 27 26,MV 28 27,P1 29 28 false (.fldA 0) 7,P1 30 28 false (.load none) 29,PC 31 28 false (.bin .eql) 30 (i6 7),PT 32 28 31,O1 33 (.fldA 5) 1,ST
 1 33 32]).seq (((C.ops [O1 34 (.fldA 0) 7,LD 35 34,BC 36 .eql 35 (i6 11)]).seq (C.cond (.t 36) (C.ops [O1 37 (.fldA 1) 7,LD 38 37,O1 39 (.fldA 6) 1,ST 1 39 38]) C.skip)).seq
 ((C.ops [LD 40 3,O1 41 (.fldA 3) 7,LD 42 41,O2 43 .callv 40 42,MV 10 43]).seq ((C.draw (DT.one ⟨some 44,none,.fldA 5,[.t 9]⟩ (DT.one ⟨some 45,none,.load none,[.t 44]⟩
 (DT.one ⟨some 48,none,.fldA 5,[.t 1]⟩ ((DT.one ⟨some 46,none,.fldA 6,[.t 9]⟩ ((DT.one ⟨some 47,none,.load none,[.t 46]⟩ (DT.one ⟨none,none,.store 1,[.t 48,.t 45]⟩
 (DT.one ⟨some 49,none,.fldA 6,[.t 1]⟩ (DT.one ⟨none,none,.store 1,[.t 49,.t 47]⟩ DT.nil)))).two (DT.one ⟨none,none,.store 1,[.t 48,.t 45]⟩ (DT.one ⟨some 47,none,.load
 none,[.t 46]⟩ (DT.one ⟨some 49,none,.fldA 6,[.t 1]⟩ (DT.one ⟨none,none,.store 1,[.t 49,.t 47]⟩ DT.nil)))))).two (DT.one ⟨none,none,.store 1,[.t 48,.t 45]⟩ (DT.one ⟨some
 46,none,.fldA 6,[.t 9]⟩ (DT.one ⟨some 47,none,.load none,[.t 46]⟩ (DT.one ⟨some 49,none,.fldA 6,[.t 1]⟩ (DT.one ⟨none,none,.store 1,[.t 49,.t 47]⟩ DT.nil)))))))))).seq
 ((C.ops [MV 50 10,O1 51 (.un UnOp.not) 50]).seq (C.cond (.t 51) ((C.ops [MC 5 (.bool false)]).seq C.ret) C.skip)))))))))))))))))))).seq (C.ops [BC 92 .add 13 (i6 1),MV 13
 92])))).loop)).seq ((C.ops [MC 5 (.bool true)]).seq
 C.ret)))
theorem qzw:qM Tryz.prog 253 93 2 [RV.tmp 5] qxT:=fi Tryz.f253 [7,9] zM []
def qxU:C:=
 ((C.ops [MC 2 .nilp]).seq ((C.ops [MV 3 0,O1 4 .nilchk 3,O1 5 (.fldA 0) 4,LD 6 5,MV 7 0,O1 8 .nilchk 7,O1 9 (.fldA 0) 8,LD 10 9,O1 11 .len 10,BC 12 .sub 11 (i6 1),O2 13
 (.idxA 6) 6 12,MV 2 13]).seq
 C.ret))
theorem qzx:qM Tryz.prog 256 14 0 [RV.tmp 2] qxU:=fi Tryz.f256 [] zM []
def qtx:C:=
 ((C.ops [O1 1 (.box 0 103) 0,MC 2 (.bool false)]).seq ((C.ops [O1 3 (.fldA 0) 1,LD 4 3,O1 5 .slen 4,BC 6 .gtr 5 (i6 64),MV 2 6]).seq
 C.ret))
theorem qsw:qM Tryz.prog 224 7 1 [RV.tmp 2] qtx:=fi Tryz.f224 [1] zM []
def qEs:C:=
 ((C.ops [ON 2 (.nilo 0 1 9) []]).seq ((C.ops [ON 3 (.nilo 1 1 9) []]).seq (((C.ops [MV 6 0,O1 7 .len 6,MC 8 (i6 0)]).seq (C.block 0 ((C.ops [BI 9 .lss 8 7]).seq ((C.cond (.t 9)
 C.skip (C.exit 0)).seq ((C.block 1 ((C.ops [O2 10 (.idxA 6) 6 8,O1 11 (.load (some 6)) 10,⟨some 5,none,.alloc 2 103 [.str [],.str [],.str [],i6 0,i6 0,.str []],[]⟩,ST 6
 5 11]).seq (C.ops [MV 12 3,O1 13 (.fldA 0) 5,LD 14 13,⟨some 15,none,.bslc 3 1 1 9 [.str []] [(0,1)],[.t 14]⟩,O2 16 (.app 4 1 9 16) 12 15,MV 3 16]))).seq (C.ops [BC 17 .add
 8 (i6 1),MV 8 17])))).loop)).seq ((C.ops [MV 18 3,MV 2 18]).seq
 C.ret))))
theorem qC7:qM Tryz.prog 90 19 5 [RV.tmp 2] qEs:=fi Tryz.f90 [2,3,5,15,16] zM []
end
section
open Go Go.Proofs AF HY LN
namespace RC
abbrev frmN:Nat:=3
def frmC:List AV:= [.str [],.bool false,.bool false,.bool false,.str [],.bool true,.bool false,.bool false,.str [108,98],.bool false,.bool false,.bool false,.str [112,98],.bool true,.bool false,.bool false,
 .str [115,101,99],.bool true,.bool false,.bool false,.str [118],.bool false,.bool false,.bool false,.str [103,97,112],.bool false,.bool true,.bool false,.str [117,110,99,108,101,97,114],.bool false,.bool false,.bool true,
 .str [97,100,100],.bool false,.bool true,.bool true,.str [100,101,108],.bool false,.bool true,.bool true,.str [97,98],.bool true,.bool false,.bool true,.str [110,97,109,101],.bool true,.bool false,.bool true]
def qzY:List AV:= [.str [],.bool true,.bool false,.bool false]
theorem qsB:(frmC.drop ((1:Int).toNat*4)).take 4=qzY:=rfl
def PF(h:List AObj):Prop:=kQ SG h∧zK h frmN frmC
theorem PF.app{h:List AObj}(hp:PF h)(l:List AObj):PF (h++l):=⟨hp.1.app l,hp.2.app⟩
def ndC(s:Str):List AV:= [.int .i64 1,.str s,.int .i64 0,.nl]
def kg(s:Str):AV:= .sl 1 fun _=>ndC s
def plC(s:Str):List AV:= [.int .i64 1,.str s,.int .i64 0,.nl,.int .i64 0,.bool false]
theorem qFB(s:Str)(h:List AObj)(hs:s≠ [])(hl:s.length≤1000000)(hc:zU s=0)(hg:zK h frmN frmC):ACalls Tryz.prog 249 [.agg (plC s)] h (.int .i64 0) h:=by
 have c1:=fun h=>qDI s h om
 rw[hc]at c1;have k1:(s= [])=False:=eqf hs;refine acO qzt ?_;simp (disch:=omega) only[qxQ,plC,go_sem]
 repeat' first
  |(apply qb;exact rvk;simp only[go_sem];apply qh)
  |with_reducible first|intro _|apply aiA
 all_goals try exact clz
 refine qsF (cs:=frmC) hg.app ⟨by decide,by decide⟩ rfl ?_;rw[qsB];simp (disch:=omega) only[qzY,k1,go_sem]
 repeat' first
  |(refine qj ( .bool false) ?_;simp (disch:=omega) only[go_sem])
  |(refine cG (fun e=>c1 _) flk ?_;simp (disch:=omega) only[go_sem])
  |(apply qb;exact rvk;simp only[go_sem];first|exact qi|apply qh)
  |with_reducible first|intro _|apply aiA
 all_goals try exact clz
end RC
end
section
open Go Go.Proofs AF HY LN
namespace AF
mutual
theorem kF{n m:Nat}(h:n≤m): ∀c,qV n c=true→qV m c=true
 | .osl k v z o l,hc=>by simp only[qV,decide_eq_true_eq]at*;omega
 | .op k v o,hc=>by simp only[qV,decide_eq_true_eq]at*;omega
 | .mp k v,hc=>by simp only[qV,decide_eq_true_eq]at*;omega
 | .yld k,hc=>by simp only[qV,decide_eq_true_eq]at*;omega
 | .agg cs,hc=>by simp only[qV]at*;exact qae h cs hc
 | .tup cs,hc=>by simp only[qV]at*;exact qae h cs hc
 | .fn f a b,hc=>by simp only[qV,Bool.and_eq_true]at*;exact⟨qae h a hc.1,qae h b hc.2⟩
 | .gd g v,hc=>by
  cases g with
  |false=>rfl
  |true=>simp only[qV,Bool.not_true,Bool.false_or]at*;exact kF h v hc
 | .undef,_=>rfl
 | .bool _,_=>rfl
 | .int _ _,_=>rfl
 | .str _,_=>rfl
 | .sl _ _,_=>rfl
 | .ip _,_=>rfl
 | .nilp,_=>rfl
 | .nl,_=>rfl
 | .el,_=>rfl
 | .nilfn,_=>rfl
 | .ifc,_=>rfl
 | .nilif,_=>rfl
 | .anyb,_=>rfl
theorem qae{n m:Nat}(h:n≤m): ∀cs,qV.lowVs n cs=true→qV.lowVs m cs=true
 | [],_=>rfl
 |c::r,hc=>by simp only[qV.lowVs,Bool.and_eq_true]at*;exact⟨kF h c hc.1,qae h r hc.2⟩
end
theorem lowO_mono{n m:Nat}(h:n≤m){o:AObj}(ho:lowO n o):lowO m o:=by
 cases o with
 |mem v ty cs=>exact fun c hc=>kF h c (ho c hc)
 |emp v=>trivial
 |lp s ts L=>exact fun c hc=>kF h c (ho c hc)
 |map v es=>exact fun p hp=>kF h p.2 (ho p hp)
 |pin bs G=>trivial
theorem LowI.retX{h hh xs:List AObj}{ts:List AV}{L:LInfo}(s:LS)(hl:LowI h hh)(hts: ∀c∈ts,qV (h.length+1) c=true):
  (hh++ .lp s ts L::xs).length=(h++ .lp .ready ts L::xs).length∧ ∀o∈hh++ .lp s ts L::xs,o∈h++ .lp .ready ts L::xs∨lowO (h++ .lp .ready ts L::xs).length o:=by
 refine⟨by simp[hl.1],fun o ho=> ?_⟩;rcases List.mem_append.1 ho with ho|ho
 ·rcases hl.2 o ho with h1|⟨h1,_⟩
  ·exact .inl (List.mem_append_left _ h1)
  ·exact .inr (lowO_mono (by simp) h1)
 ·rcases List.mem_cons.1 ho with rfl|ho
  ·exact .inr (fun c hc=>kF (by simp) c (hts c hc))
  ·exact .inl (List.mem_append_right _ (List.mem_cons_of_mem _ ho))
end AF
namespace RC
theorem qF1(d:Int)(a b:AV)(h:List AObj):ACalls Tryz.prog 276 [.nl,.int .i64 d,a,b] h (.bool true) h:=by
 refine acO qsA ?_;simp (disch:=omega) only[qtB,go_sem];refine qu (T:=fun _:Unit=>ze 40 [(1,.int .i64 d),(2,a),(3,b),(7,.bool false),(10,.nl),(11,.int .i64 0),(12,.int .i64 0)]) (H:=fun _=>h++ [.emp 0]) (inv:=fun _=>True) (m:=fun _=>0) () trivial (Wk.temps ?_) ?_
 ·(simp only[go_sem,qg,qc,qa,qf];try (repeat' first|(with_reducible apply aiA)|(apply qh;omega)|(apply qe;rfl)|exact qi))
 rintro⟨⟩ _ K hK;simp (disch:=omega) only[go_sem]
 repeat' first
  |(apply qb;exact rvk;simp only[go_sem];exact qi)
  |with_reducible first|intro _|apply aiA
 all_goals try exact clz
def cyl(n:Nat):AObj:= .mem 1 297 [.yld n]
def cwk(n:Nat):AObj:= .mem 1 298 [.fn (.func 276) [] [.op (n+1) 1 0,.op (n+2) 1 0]]
section
variable {n : Nat} {hh m : List AObj} {st : LS} {ts : List AV} {LI : LInfo}
theorem qAv(hl:hh.length=n):cellsOf (hh++ .lp st ts LI::cyl n::cwk n::m) (n+1) 1=some [.yld n]:=qP (show qr _ _=some (cyl n) by subst hl;unfold qr;simp)
theorem qAw(hl:hh.length=n):cellsOf (hh++ .lp st ts LI::cyl n::cwk n::m) (n+2) 1=some [.fn (.func 276) [] [.op (n+1) 1 0,.op (n+2) 1 0]]:=qP (show qr _ _=some (cwk n) by subst hl;unfold qr;simp)
end
theorem wlk1(s:Str)(h:List AObj)(ts:List AV)(LI:LInfo)(S:Nat→List AObj→Prop)(E:LS→List AObj→Prop)(hS: ∀i hh,S i hh→LowI h hh)(hE: ∀s hh,E s hh→LowI h hh)
  (body: ∀i hh tl,(hi:i< [[AV.agg (plC s)]].length)→S i hh→kk Tryz.prog h.length ([[AV.agg (plC s)]][i]) (hh++ .lp .ready ts LI::tl) (fun r h'=> ∃hh',(r= .bool true∧S (i+1) hh'∧h'=hh'++ .lp .ready ts LI::tl)∨(∃s,r= .bool false∧E s hh'∧h'=hh'++ .lp s ts LI::tl)))
  (start:S 0 h) (hts: ∀c∈ts,qV (h.length+1) c=true):
  jc Tryz.prog 276 [kg s,.int .i64 0,.op (h.length+1) 1 0,.op (h.length+2) 1 0] (h++ [.lp .ready ts LI,cyl h.length,cwk h.length])
   (fun r h'=> ∃hh',(r= .bool true∧S 1 hh'∧h'=hh'++ [.lp .ready ts LI,cyl h.length,cwk h.length])∨(∃st,r= .bool false∧E st hh'∧h'=hh'++ [.lp st ts LI,cyl h.length,cwk h.length])):=by
 refine acQ qsA ?_;simp (disch:=omega) only[qtB,kg,ndC,go_sem];refine qu (T:=fun i:Nat×List AObj×AObj=>ze 40 [(1,.int .i64 0),(2,.op (h.length+1) 1 0),(3,.op (h.length+2) 1 0),(7,.bool (decide (i.1=1))),(10,kg s),(11,.int .i64 ((1:Nat):Int)),(12,.int .i64 i.1)])
  (H:=fun i=>i.2.1++ [.lp .ready ts LI,cyl h.length,cwk h.length]++ [i.2.2])
  (inv:=fun i=>i.1≤1∧S i.1 i.2.1∧qJ [i.2.2] 0=true) (m:=fun i=>1-i.1) (0,h,.emp 0) ⟨nzl _,start,rfl⟩ (Wk.temps ?_) ?_
 ·(simp only[kg,ndC,go_sem,qg,qc,qa,qf];try (repeat' first|(with_reducible apply aiA)|(apply qh;omega)|(apply qe;rfl)|exact qi))
 rintro⟨i,hh,O⟩ ⟨i1,i2,i3⟩ K hK;simp only at i1 i2 i3 hK;obtain⟨hlen,hlow⟩:=hS _ _ i2;have hb:(h++ [AObj.lp LS.ready ts LI,cyl h.length,cwk h.length]).length=(hh++ [AObj.lp LS.ready ts LI,cyl h.length,cwk h.length]).length:=by simp[hlen]
 rw[hb];have i3': ∀m,qJ (O::m) 0=true:=fun _=>i3
 have ea: ∀(g:List AObj) m,g++ [AObj.lp LS.ready ts LI,cyl h.length,cwk h.length]++m=g++ .lp .ready ts LI::cyl h.length::cwk h.length::m:=fun g m=>by simp
 have d1: ∀m,cellsOf (hh++ [AObj.lp LS.ready ts LI,cyl h.length,cwk h.length]++m) (h.length+1) 1=some [.yld h.length]:=fun m=>by rw[ea];exact qAv hlen
 have d2: ∀m,cellsOf (hh++ [AObj.lp LS.ready ts LI,cyl h.length,cwk h.length]++m) (h.length+2) 1=some [.fn (.func 276) [] [.op (h.length+1) 1 0,.op (h.length+2) 1 0]]:=fun m=>by rw[ea];exact qAw hlen
 by_cases hi:i<1
 ·obtain rfl:i=0:=by omega
  have hb':=fun O'=>body 0 hh [cyl h.length,cwk h.length,O'] (by simp) i2
  simp (disch:=omega) only[kg,ndC,i3',d1,go_sem]
  repeat' first
   |with_reducible first|intro _|apply aiA
  all_goals try exact clz
  ·exact⟨.ready,ts,LI,by rw[ea];exact kR hlen⟩
  ·rw[ea];refine kk.mono ?_ (hb' _);rintro v h' ⟨hh',⟨rfl,hn,rfl⟩|⟨st,rfl,hs',rfl⟩⟩
   ·have hl':=(hS _ _ hn).1;have hq:(hh++ [AObj.lp LS.ready ts LI,cyl h.length,cwk h.length]).length=(hh'++ [AObj.lp LS.ready ts LI,cyl h.length,cwk h.length]).length:=by simp[hlen,hl']
    rw[←ea,hq];have e1: ∀m,cellsOf (hh'++ [AObj.lp LS.ready ts LI,cyl h.length,cwk h.length]++m) (h.length+1) 1=some [.yld h.length]:=fun m=>by rw[ea];exact qAv hl'
    have e2: ∀m,cellsOf (hh'++ [AObj.lp LS.ready ts LI,cyl h.length,cwk h.length]++m) (h.length+2) 1=some [.fn (.func 276) [] [.op (h.length+1) 1 0,.op (h.length+2) 1 0]]:=fun m=>by rw[ea];exact qAw hl'
    simp (disch:=omega) only[e2,go_sem]
    repeat' first
     |(refine qy (qF1 _ _ _ _) ?_;simp (disch:=omega) only[go_sem])
     |with_reducible first|intro _|apply aiA
    all_goals try exact clz
    refine hK _ _ (1,hh',.mem (qo (some O)+1) 189 (ndC s)) ⟨nlr _,hn,rfl⟩ (by simp only;omega) (Wk.temps ?_)
    (simp only[kg,ndC,go_sem,qg,qc,qa,qf];try (repeat' first|(with_reducible apply aiA)|(apply qh;omega)|(apply qe;rfl)|exact qi))
   ·simp (disch:=omega) only[go_sem]
    repeat' first
     |with_reducible first|intro _|apply aiA
    all_goals try exact clz
    obtain⟨r1,r2⟩:=(hE _ _ hs').retX (L:=LI) (xs:= [cyl h.length,cwk h.length]) st hts;have eO: ∀O',hh'++ .lp st ts LI::cyl h.length::cwk h.length:: [O']=(hh'++ [.lp st ts LI,cyl h.length,cwk h.length])++ [O']:=fun _=>by simp
    rw[eO];exact qaq ⟨trivial,trivial⟩ r1 r2 ⟨hh',.inr ⟨st,rfl,hs',rfl⟩⟩ (qi)
 ·obtain rfl:i=1:=by omega
  simp (disch:=omega) only[kg,ndC,go_sem]
  repeat' first
   |with_reducible first|intro _|apply aiA
  all_goals try exact clz
  obtain⟨r1,r2⟩:=(hS _ _ i2).retX (L:=LI) (xs:= [cyl h.length,cwk h.length]) .ready hts;exact qaq ⟨trivial,trivial⟩ r1 r2 ⟨hh,.inl ⟨rfl,i2,rfl⟩⟩ (qi)
end RC
end
section
set_option linter.unusedVariables false
namespace Go.Proofs
open Go.Shelf Go.RowKit
set_option maxHeartbeats 1000000 in
set_option maxRecDepth 100000 in
theorem qlc(b d:Nat)(w:World)(h0:w.cell? ⟨b,d,none⟩=some (.pointer (some ⟨b,d,none⟩))):
  Calls Tryz.prog 153 #[.pointer (some ⟨b,d,none⟩)] w fun e w'=>e= .returned (.tuple #[])∧w'=w:=by
 obtain⟨j,hj,_⟩:=Option.map_eq_some_iff.1 (show (Tryz.prog.info? 155).map (·.size)=some 2 by kernel_rfl)
 go_enter Tryz.func153,Tryz.ntmps153
 go_wp2
 rw[Lib.run_neq_ptr_same w _ Tryz.underlying152 hj]
 go_wp2
 go_end0
 exact⟨rfl,rfl⟩
set_option maxHeartbeats 1000000 in
set_option maxRecDepth 100000 in
theorem qhn(b d ty n:Nat)(w:World)(h0:w.cell? ⟨b,d,none⟩=some (.pointer none))(hn:d+2≤n)(hsh:w.shape? b=some (ty,n))(hfz:w.frozen? ⟨b,d,none⟩=false)
  (hl:liesAt Tryz.prog Tryz.prog.depth ty (n/Tryz.prog.cellsOf ty) d 155 1=true):
  Calls Tryz.prog 153 #[.pointer (some ⟨b,d,none⟩)] w fun e w'=>e= .returned (.tuple #[])∧w'=w.setCell ⟨b,d,none⟩ (.pointer (some ⟨b,d,none⟩)):=by
 obtain⟨j,hj,hjs⟩:=Option.map_eq_some_iff.1 (show (Tryz.prog.info? 155).map (·.size)=some 2 by kernel_rfl)
 go_enter Tryz.func153,Tryz.ntmps153
 go_wp2
 rw[Lib.run_to_unsafe w ⟨b,d,none⟩ Tryz.underlying152 Tryz.underlying233 hj (by rw[hjs];decide) hsh (show d<n by omega)];simp only[Result.andThen];rw[Oper.upon_value]
 go_wp2
 rw[run_callFunc_extern Tryz.func198 (by kernel_rfl) (by kernel_rfl) (by kernel_rfl) (e:=Extern.AbiNoEscape.same) (by kernel_rfl)];rw[Lib.run_noEscape];simp only[Result.andThen];rw[Oper.upon_value]
 go_wp2
 rw[Lib.run_from_unsafe w ⟨b,d,none⟩ Tryz.underlying233 Tryz.underlying152 hj hsh hl];simp only[Result.andThen];rw[Oper.upon_value]
 go_wp2
 go_end0
 exact⟨rfl,rfl⟩
set_option maxHeartbeats 1000000 in
set_option maxRecDepth 100000 in
theorem qh2(b d g cap:Nat)(l:List UInt8)(cur:Array Value)(w:World)(h0:l≠ [])(c0:w.cell? ⟨b,d+1,none⟩=some (.slice (some ⟨g,0,none⟩) l.length cap))(hg:w.heap[g]? =some (.cells cur 5 (0,0)))
  (hnc:l.length≤cap) (hcm:cap≤maxLen) (hcs:cap≤cur.size) (hcell: ∀(j:Nat) x,l[j]? =some x→w.cell? ⟨g,j,none⟩=some (.int .u8 x.toNat)):
  Calls Tryz.prog 118 #[.pointer (some ⟨b,d,none⟩)] w fun e w'=>e= .returned (.string ⟨l.toArray⟩)∧w'=w.drew.freeze ⟨g,0,none⟩ l.length:=by
 have hl0:l.length≠0:=by simpa using h0
 have c1:w.drew.cell? ⟨b,d+1,none⟩=some (.slice (some ⟨g,0,none⟩) l.length cap):=c0;have hSD:(Builtin.unsafeSliceData_ #[153] 195 #[.slice (some ⟨g,0,none⟩) l.length cap]).run Tryz.prog w.drew= .ok (.pointer (some ⟨g,0,none⟩)) w.drew:=
  Lib.run_unsafeSliceData_row _ _ _ _ _ _ om
 have hUS:(Builtin.unsafeString_ #[195,3] 9 #[.pointer (some ⟨g,0,none⟩),.int .i64 l.length]).run Tryz.prog w.drew= .ok (.string ⟨l.toArray⟩) (w.drew.freeze ⟨g,0,none⟩ l.length):=by
  refine Lib.run_unsafeString_row w.drew 195 3 9 5 Tryz.underlying195 (by kernel_rfl) g cur.size (by have hg':w.drew.heap[g]? =some (.cells cur 5 (0,0)):=hg;simp[World.shape?,hg']) l h0 om (by unfold maxLen at hcm;omega) ?_;intro j x hx
  have:=hcell j x hx
  cases j with
  |zero=>exact this
  |succ j=>
   have e:(⟨g,0,none⟩:Addr).add (j+1)=⟨g,j+1,none⟩:=by
    unfold Addr.add;rw[ine (Nat.succ_ne_zero j)];simp only[Nat.zero_add]
   rw[e];exact this
 have mixed:Tryz.prog.follows .mixedOrders=true:=by kernel_rfl
 go_enter Tryz.func118,Tryz.ntmps118
 go_wp2
 go_region_o
 all_goals (go_wp2;go_ret;exact⟨rfl,rfl⟩)
set_option maxHeartbeats 2000000 in
set_option maxRecDepth 100000 in
theorem qh1(b d:Nat)(w:World)(c0:w.cell? ⟨b,d+1,none⟩=some (.slice none 0 0)):
  Calls Tryz.prog 118 #[.pointer (some ⟨b,d,none⟩)] w fun e w'=>e= .returned (.string ⟨#[]⟩)∧w'=w.drew:=by
 have hUS: ∀(W:World) (q:Option Addr),(Builtin.unsafeString_ #[195,3] 9 #[.pointer q,.int .i64 0]).run Tryz.prog W= .ok (.string .empty) W:=fun W q=>Lib.run_unsafeString_none W _ _ _ q
 have c1:w.drew.cell? ⟨b,d+1,none⟩=some (.slice none 0 0):=c0;have hSD:(Builtin.unsafeSliceData_ #[153] 195 #[.slice none 0 0]).run Tryz.prog w.drew= .ok (.pointer none) w.drew:=rfl;have mixed:Tryz.prog.follows .mixedOrders=true:=by kernel_rfl
 go_enter Tryz.func118,Tryz.ntmps118
 go_wp2
 go_region_o
 all_goals (go_wp2;go_ret;exact⟨rfl,rfl⟩)
end Go.Proofs
end
section
open Go Go.Proofs AF
def qmi:List Nat:= [153,117,280,118,257]
def qw1:C:=
 ((C.ops [MC 4 (i6 0),MC 5 .nilif]).seq ((C.ops [MV 6 0,O1 7 (.call 153 false) 6]).seq ((C.ops [MV 8 0,MV 9 0,O1 10 .nilchk 9,O1 11 (.fldA 1) 10,LD 12 11,MV 13 1,O2 14
 (.apps 0 5) 12 13,O1 15 .nilchk 8,O1 16 (.fldA 1) 15,ST 1 16 14]).seq ((C.ops [MV 17 1,O1 18 .slen 17,MV 4 18,MC 5 .nilif]).seq
 C.ret))))
theorem qyz:qM Tryz.prog 117 19 1 [RV.tmp 4,RV.tmp 5] qw1:=fi Tryz.f117 [14] qmi []
def qx0:C:=
 ((C.ops [MC 4 .nilif]).seq ((C.ops [MV 5 0,O1 6 (.call 153 false) 5]).seq ((C.ops [MV 7 0,MV 8 0,O1 9 .nilchk 8,O1 10 (.fldA 1) 9,LD 11 10,MV 12 1,⟨some 13,none,.bslc 0 1
 1 5 [.int .u8 0] [(0,1)],[.t 12]⟩,O2 14 (.app 1 1 5 1) 11 13,O1 15 .nilchk 7,O1 16 (.fldA 1) 15,ST 1 16 14]).seq ((C.ops [MC 4 .nilif]).seq
 C.ret))))
theorem qzD:qM Tryz.prog 280 17 2 [RV.tmp 4] qx0:=fi Tryz.f280 [13,14] qmi []
end
section
open Go Go.Proofs AF HY RC LN
namespace HY
def qds(v:Nat)(s:List UInt8):AObj:=if s= [] then .emp v else .mem v 5 (zI s)
theorem qcH(v:Nat):qds v []= .emp v:=rfl
theorem qa6{s:List UInt8}(h:s≠ [])(v:Nat):qds v s= .mem v 5 (zI s):=ine h
theorem qdH(s u:List UInt8):zI (s++u)=zI s++zI u:=by simp[zI]
theorem qiq(s:List UInt8)(n:Nat): ∀c∈zI s,qV n c=true:=by
 intro c hc;unfold zI at hc;rw[List.mem_map]at hc;obtain⟨a,_,rfl⟩:=hc;rfl
theorem je(v:Nat)(s:List UInt8)(n:Nat):lowO n (qds v s):=by
 unfold qds;split
 ·trivial
 ·exact qiq s n
theorem qec{kb kj:Nat}{h:List AObj}{X Y Z:AObj}(hne:kb≠kj):qn kb (qn kj (qn kb h X) Y) Z=qn kj (qn kb h Z) Y:=by
 rw[kI hne,qai]
theorem qtn(v:Nat)(u:List UInt8):(if u.length=0 then AObj.emp v else AObj.mem v 5 (zI u))=qds v u:=by
 unfold qds
 by_cases h:u= []
 ·simp[h]
 ·rw[ine h,ine (by simpa using h)]
theorem qcm(w:World)(g n:Nat):w.grownBy (w.drew.freeze ⟨g,0,none⟩ n) (some g):=by
 unfold World.freeze;split
 ·exact⟨rfl,rfl,rfl,nlr _,fun _ _ _=>rfl⟩
 ·refine⟨rfl,rfl,rfl,?_,fun k hk hne=> ?_⟩
  ·show w.heap.size≤(w.heap.modify g _).size;rw[Array.size_modify];exact nlr _
  ·have:g≠k:=fun e=>hne (by rw[e])
   show (w.heap.modify g _)[k]? =w.heap[k]?;rw[Array.getElem?_modify,ine this]
theorem qja{p:Program}{fits:TypeId→Bool}{e:TypeId}{c c' off n:Nat}(hc:c≤c'): ∀d,rowAt p fits d e c off n=true→rowAt p fits d e c' off n=true:=by
 intro d;cases d with
 |zero=>exact id
 |succ d=>
  unfold rowAt;simp only;split
  ·exact id
  ·intro h;rw[Bool.or_eq_true]at h ⊢;rcases h with h|h
   ·refine .inl ?_;simp only[Bool.and_eq_true,decide_eq_true_iff]at h ⊢;exact⟨⟨h.1.1,om⟩,h.2⟩
   ·refine .inr ?_;rw[Bool.and_eq_true]at h ⊢;exact⟨by simp only[decide_eq_true_iff]at h ⊢;omega,h.2⟩
theorem qdd{p:Program}{e u:TypeId}{c c' off n:Nat}(hc:c≤c'): ∀d,liesAt p d e c off u n=true→liesAt p d e c' off u n=true:=by
 intro d
 induction d generalizing u n with
 |zero=>exact id
 |succ d ih=>
  unfold liesAt;intro h;rw[Bool.or_eq_true]at h ⊢;rcases h with h|h
  ·exact .inl (qja hc _ h)
  ·refine .inr ?_;split at h
   ·exact ih h
   ·cases h
theorem qDl(n:Nat)(hn:2≤n):liesAt Tryz.prog Tryz.prog.depth 155 (n/Tryz.prog.cellsOf 155) 0 155 1=true:=by
 have e1:Tryz.prog.cellsOf 155=2:=by kernel_rfl
 have h1:liesAt Tryz.prog Tryz.prog.depth 155 1 0 155 1=true:=by kernel_rfl
 rw[e1];exact qdd om _ h1
theorem ccS(kb vb:Nat)(A B:AV)(h:List AObj)(hk:qr kb h=some (.mem vb 155 [A,B]))(hA:A= .nilp∨A= .op kb vb 0):ACalls Tryz.prog 153 [.op kb vb 0] h (.tup []) (qn kb h (.mem vb 155 [.op kb vb 0,B])):=by
 refine⟨qu7 Tryz.func153 (by kernel_rfl) (by kernel_rfl),fun w σ xs H hv=> ?_⟩;obtain⟨x,rfl,hx⟩:=hv.one;have hc:=qP hk;obtain⟨cs,o,b,arr,g1,rfl,g2,g3,g4,g5,g6,g7,g9,g8⟩:=kG H hx (by rw[hc];rfl);rw[hc]at g1;cases g1;have hobj:=H.obj kb _ o hk g2;obtain⟨_,hty,_⟩:=hobj;rw[hty]at g5;have g5b:=g5;have g5:=g5.plain (by decide);have hsz:2≤arr.size:=g7;have hc0:w.cell? ⟨b,0,none⟩=some arr[0]:=by rw[kc g5b];simp
 have hA0:=g8 0 A arr[0] rfl (by simp);have hsh:w.shape? b=some (155,arr.size):=by simp[World.shape?,g5]
 have hfz:w.frozen? ⟨b,0,none⟩=false:=by simp[World.frozen?,g5]
 have hkl:=zG hk;rcases hA with rfl|rfl
 ·rw[qeX hA0]at hc0;refine (callsIn_wide.2 (qhn b 0 155 arr.size w hc0 om hsh hfz (qDl _ hsz))).mono ?_;rintro e w' ⟨rfl,rfl⟩;have hg:w.grownBy (w.setCell ⟨b,0,none⟩ (.pointer (some ⟨b,0,none⟩))) o.blk:=by rw[g4];exact grownBy_setCell' w b _
  have hh:=heap_setCell_same w b 0 arr 155 (.pointer (some ⟨b,0,none⟩)) g5;obtain⟨u1,u2⟩:=H.update (o':=o) (a':= .mem vb 155 [.op kb vb 0,B]) g2 hg (nlr _) (fun _=>rfl)
   (by intro b' e;rw[g4]at e;cases e;exact⟨.inl g4,(Array.getElem?_eq_some_iff.1 hh).1⟩) (fun b' r e hr=>by rw[g4]at e;cases e;rw[g5]at hr;cases hr)
   (fun e=>⟨g3,hty,b,_,g4,by rw[hty];exact .mk hh,by simp[g6],by simp;exact hsz,fun i y hi hy=>by
    simp only[Array.getElem?_setIfInBounds]at hy;split at hy
    ·split at hy
     ·cases hy;rfl
     ·cases hy
    ·exact g9 i y (by simpa using hi) hy,fun i c y hc hy=>by
    simp only[Array.getElem?_setIfInBounds]at hy;split at hy
    ·rename_i e0;split at hy
     ·cases hy;subst e0;simp at hc;subst hc;have hko:(σ.set kb o)[kb]? =some o:=by rw[List.getElem?_set_self (by rw[H.len];exact hkl)]
      exact .op o hko ⟨_,rfl⟩ om (fun _=>⟨b,g4,rfl⟩)
     ·cases hy
    ·rename_i e0;have hne:i≠0:=fun e1=>e0 e1.symm
     have hcs: [.op kb vb 0,B]= [.nilp,B].set 0 (.op kb vb 0):=rfl;rw[hcs,List.getElem?_set_ne (fun e1=>hne e1.symm)]at hc
     exact (g8 i c y hc hy).ext e⟩)
  exact⟨_,_,rfl,u1,.imm (.tup rfl (fun i c x hc=>by simp at hc)),u2⟩
 ·obtain⟨o',q1,q2,q3⟩:=qv8 hA0;rw[g2]at q1;cases q1;obtain⟨b',q4,q5⟩:=q3 g3;rw[g4]at q4;cases q4;rw[q5]at hc0;refine (callsIn_wide.2 (qlc b 0 w hc0)).mono ?_;rintro e w' ⟨rfl,rfl⟩;rw[jK hk];exact⟨_,σ,rfl,H,.imm (.tup rfl (fun i c x hc=>by simp at hc)),Ext.refl w' σ⟩
theorem qeb{kb vb kj v m:Nat}{h:List AObj}{s:List UInt8}(hkl:kb<h.length)(hjl:kj<h.length): ∀o∈qn kj (qn kb h (.mem vb 155 [.op kb vb 0,.osl kj v 1 0 m])) (qds v s),o∈h∨lowO h.length o:=by
 intro o ho;rcases jk ho with h1|rfl
 ·rcases jk h1 with h2|rfl
  ·exact .inl h2
  ·right;intro c hc;simp only[List.mem_cons,List.not_mem_nil,or_false]at hc;rcases hc with rfl|rfl
   ·simpa[qV] using hkl
   ·simpa[qV] using hjl
 ·exact .inr (je v s _)
theorem qF6(kb vb kj v:Nat)(A:AV)(s u:List UInt8)(h:List AObj)(hne:kj≠kb)(hk:qr kb h=some (.mem vb 155 [A,.osl kj v 1 0 s.length]))(hA:A= .nilp∨A= .op kb vb 0)(hj:qr kj h=some (qds v s))(hl:s.length+u.length≤140737488355328):
  ACalls Tryz.prog 117 [.op kb vb 0,.str u] h (.tup [.int .i64 u.length,.nilif]) (qn kj (qn kb h (.mem vb 155 [.op kb vb 0,.osl kj (v+1) 1 0 (s.length+u.length)])) (qds (v+1) (s++u))):=by
 have hkl:=zG hk;have hjl:=zG hj;have hne':kb≠kj:=fun e=>hne e.symm
 have hk1: ∀l,qr kb (h++l)=some (.mem vb 155 [A,.osl kj v 1 0 s.length]):=fun l=>by rw[zz hkl,hk]
 refine acO qyz ?_;simp (disch:=omega) only[qw1,go_sem];refine qx (ccS kb vb A _ _ (hk1 _) hA) ⟨rfl,trivial⟩ ?_
 by_cases hs:s= []
 ·subst hs;rw[qcH]at hj;simp (disch:=omega) only[zC,jp,qS,qeq,qer,qeF,qeG,zR,jq,ql,qdS,hj,go_sem];refine⟨om,⟨by simp,by simp at hl;omega⟩,?_⟩;rw[qec hne',qtn];refine qaq ⟨trivial,trivial,trivial⟩ (by simp only[qL]) (qeb hkl hjl) ⟨rfl,?_⟩ (qi);simp
 ·rw[qa6 hs]at hj;simp (disch:=omega) only[zC,jp,qS,qeq,qer,qeF,qeG,zR,jq,ql,qaW,hj,jy,go_sem]
  repeat' first
   |(with_reducible apply aiA)
  all_goals first
   |omega
   |(simp[jy];done)
   |skip
  rw[qec hne',ltl (by simp[jy]),←qdH,←qa6 (by simp[hs])];exact qaq ⟨trivial,trivial,trivial⟩ (by simp only[qL]) (qeb hkl hjl) ⟨rfl,rfl⟩ (qi)
theorem qFM(kb vb kj v:Nat)(A:AV)(s:List UInt8)(h:List AObj)(hne:kj≠kb)(hk:qr kb h=some (.mem vb 155 [A,.osl kj v 1 0 s.length]))(hj:qr kj h=some (qds v s)):
  ACalls Tryz.prog 118 [.op kb vb 0] h (.str s) (qn kj h (.emp (v+1))):=by
 refine⟨qu7 Tryz.func118 (by kernel_rfl) (by kernel_rfl),fun w σ xs H hv=> ?_⟩;obtain⟨x,rfl,hx⟩:=hv.one;have hc:=qP hk;obtain⟨cs,o,b,arr,g1,rfl,g2,g3,g4,g5,g6,g7,g9,g8⟩:=kG H hx (by rw[hc];rfl);rw[hc]at g1;cases g1;have hty:=(H.obj kb _ o hk g2).2.1;rw[hty]at g5;have g5b:=g5;have g5:=g5.plain (by decide);have hsz:2≤arr.size:=g7;have hc1:w.cell? ⟨b,0+1,none⟩=some arr[0+1]:=by rw[kc g5b];simp
 have hB:=g8 (0+1) _ arr[0+1] rfl (by simp);obtain⟨oj,j1,j2,j3⟩:=qoT hB;have hobj:=H.obj kj _ oj hj j1;have hkj:=zG hj
 by_cases hs:s= []
 ·subst hs;rw[qcH]at hj hobj;obtain⟨m1,m2⟩:=hobj;rcases j3 m1 with⟨_,_,_,e⟩|⟨b',cap,e,_⟩
  ·rw[e]at hc1;refine (callsIn_wide.2 (qh1 b 0 w hc1)).mono ?_;rintro e w' ⟨rfl,rfl⟩;obtain⟨u1,u2⟩:=H.update (w':=w.drew) (o':= { oj with blk:=none,ver:=v+1 }) (a':= .emp (v+1)) j1 ⟨rfl,rfl,rfl,nlr _,fun _ _ _=>rfl⟩ (by simp only;omega) (by simp only;omega) (by intro b' e;cases e) (fun b' r e hr=>⟨r,hr⟩) (fun _=>⟨rfl,rfl⟩);exact⟨_,_,rfl,u1,.imm .str,u2⟩
  ·rw[m2]at e;cases e
 ·rw[qa6 hs]at hj hobj;obtain⟨m1,m2,bj,arrj,m3,m4,m5,m6,m7,m8⟩:=hobj;rcases j3 m1 with⟨e,_⟩|⟨b',cap,e1,e2,e3,e4,e5⟩
  ·rw[m3]at e;cases e
  ·rw[m3]at e1;cases e1;rw[e2]at hc1;rw[m2]at m4;have m4b:=m4;have m4:=m4.plain (by decide);rw[jy]at m6;refine (callsIn_wide.2 (qh2 b 0 bj cap s arrj w hs hc1 m4 e3 e4 om (fun j x hx=> ?_))).mono ?_
   ·have hjl:j<s.length:=(lgs.1 hx).1;rw[kc m4b];have ea:arrj[j]? =some arrj[j]:=by simp
    have:=m8 j (.int .u8 x.toNat) arrj[j] (by simp[zI,hx]) ea
    rw[ea,zD this]
   ·rintro e w' ⟨rfl,rfl⟩;have hg:w.grownBy (w.drew.freeze ⟨bj,0,none⟩ s.length) oj.blk:=by
     rw[m3];exact qcm w bj s.length
    obtain⟨u1,u2⟩:=H.update (o':= { oj with blk:=none,ver:=v+1 }) (a':= .emp (v+1)) j1 hg (by simp only;omega) (by simp only;omega) (by intro b' e;cases e)
     (fun b' r e hr=>by rw[m3]at e;cases e;rw[m4]at hr;cases hr) (fun _=>⟨rfl,rfl⟩)
    exact⟨_,_,rfl,u1,.imm .str,u2⟩
end HY
end
section
open Go Go.Proofs AF
def qb1:List Nat:= [117,118,280,257,222,254,223,255,225]
def qxY:C:=
 ((C.ops [MV 7 0,O1 8 .len 7,MC 9 (i6 0)]).seq (C.block 0 ((C.ops [BI 10 .lss 9 8]).seq ((C.cond (.t 10) C.skip (C.exit 0)).seq ((C.block 1 ((C.ops [O2 11 (.idxA 4) 7 9,O1 12
 (.load (some 4)) 11,⟨some 5,none,.alloc 0 189 [i6 0,.str [],i6 0,.nl],[]⟩,ST 4 5 12]).seq ((C.ops [O1 13 (.fldA 0) 5,LD 14 13,O1 15 (.gix 3 12 4) 14,O1 16 (.load (some
 4)) 15,⟨some 6,none,.alloc 1 300 [.str [],.bool false,.bool false,.bool false],[]⟩,ST 4 6 16]).seq (C.block 2 ((C.ops [O1 26 (.fldA 0) 5,LD 27 26,BC 28 .eql 27 (i6 1),MV
 25 28]).seq (C.cond (.t 25) (C.ops [O1 29 (.fldA 1) 5,LD 30 29,O2 31 (.call 117 false) 1 30]) ((C.ops [O1 33 (.fldA 3) 6,LD 34 33,MV 32 34]).seq (C.cond (.t 32) ((C.ops [O1 35
 (.fldA 0) 6,LD 36 35,ON 37 (.bin .add) [.c (.str [60]),.t 36],O1 38 (.load (some 4)) 5,O1 39 (.call 278 true) 38,BI 40 .add 37 39,BC 41 .add 40 (.str [62]),O2 42 (.call 117
 false) 1 41]).seq ((C.ops [LD 43 2,O1 44 (.fldA 3) 5,LD 45 44,O2 46 .callv 43 45]).seq (C.ops [O1 47 (.fldA 0) 6,LD 48 47,ON 49 (.bin .add) [.c (.str [60,47]),.t 48],BC 50
 .add 49 (.str [62]),O2 51 (.call 117 false) 1 50]))) (C.ops [O1 17 (.fldA 0) 6,LD 18 17,ON 19 (.bin .add) [.c (.str [60]),.t 18],O1 20 (.load (some 4)) 5,O1 21 (.call 278
 true) 20,BI 22 .add 19 21,BC 23 .add 22 (.str [47,62]),O2 24 (.call 117 false) 1 23]))))))))).seq (C.ops [BC 52 .add 9 (i6 1),MV 9
 52])))).loop))
theorem qzB:qM Tryz.prog 277 53 2 [] qxY:=fi Tryz.f277 [5,6] qb1 []
def qxI:C:=
 ((C.ops [O1 3 (.box 0 253) 1]).seq ((C.ops [O1 5 (.fldA 0) 3,LD 6 5]).seq (C.block 0 ((C.ops [BC 25 .eql 6 (i6 1),MV 24 25]).seq (C.cond (.t 24) (C.ops [MV 26 0,O1 27 (.load
 (some 7)) 3,O2 28 (.call 254 false) 26 27]) ((C.ops [BC 30 .eql 6 (i6 6),MV 29 30]).seq (C.cond (.t 29) ((C.ops [MV 31 0,O1 32 (.call 223 false) 31]).seq ((C.ops [MC 4 (i6
 2)]).seq (((C.ops [O1 33 (.fldA 5) 3,LD 34 33]).seq (C.cond (.t 34) (C.ops [MV 35 4,BC 36 .or 35 (i6 1),MV 4 36]) C.skip)).seq ((C.ops [MV 37 0,O1 38 (.load (some 7)) 3,MV 39
 4,ON 40 (.call 255 false) [.t 37,.t 38,.t 39]]).seq (C.ops [MV 41 0,O1 42 (.call 256 true) 41,O1 43 (.fldA 2) 3,LD 44 43,O1 45 (.call 152 true) 44,ON 46 (.bin .add) [.c
 (.str [91]),.t 45],BC 47 .add 46 (.str [93]),O1 48 .nilchk 42,O1 49 (.fldA 0) 48,ST 1 49 47]))))) ((C.ops [MV 7 0,O1 8 (.call 223 false) 7]).seq (C.draw (DT.one ⟨some 9,
 none,.mv,[.t 0]⟩ (DT.one ⟨some 10,none,.mv,[.t 0]⟩ (DT.one ⟨some 11,none,.mv,[.t 0]⟩ (DT.one ⟨some 12,none,.nilchk,[.t 11]⟩ (DT.one ⟨some 13,none,.fldA 5,[.t 12]⟩
 (DT.one ⟨some 14,none,.load none,[.t 13]⟩ (DT.one ⟨some 15,none,.mv,[.t 14]⟩ (DT.one ⟨some 20,none,.nilchk,[.t 9]⟩ (DT.one ⟨some 21,none,.fldA 4,[.t 20]⟩ ((DT.one ⟨some
 16,some (15,false),.fldA 0,[.t 3]⟩ ((DT.one ⟨some 17,some (15,false),.load none,[.t 16]⟩ (DT.one ⟨some 18,some (15,false),.bin .eql,[.t 17,.c (i6 5)]⟩ (DT.one ⟨some
 19,none,.pick,[.t 15,.c (.bool true),.t 18]⟩ (DT.one ⟨none,none,.store 1,[.t 21,.c (.bool false)]⟩ (DT.one ⟨some 22,none,.nilchk,[.t 10]⟩ (DT.one ⟨some 23,none,.fldA
 5,[.t 22]⟩ (DT.one ⟨none,none,.store 1,[.t 23,.t 19]⟩ DT.nil))))))).two (DT.one ⟨none,none,.store 1,[.t 21,.c (.bool false)]⟩ (DT.one ⟨some 17,some (15,false),.load
 none,[.t 16]⟩ (DT.one ⟨some 18,some (15,false),.bin .eql,[.t 17,.c (i6 5)]⟩ (DT.one ⟨some 19,none,.pick,[.t 15,.c (.bool true),.t 18]⟩ (DT.one ⟨some 22,none,.nilchk,
 [.t 10]⟩ (DT.one ⟨some 23,none,.fldA 5,[.t 22]⟩ (DT.one ⟨none,none,.store 1,[.t 23,.t 19]⟩ DT.nil))))))))).two (DT.one ⟨none,none,.store 1,[.t 21,.c (.bool false)]⟩
 (DT.one ⟨some 16,some (15,false),.fldA 0,[.t 3]⟩ (DT.one ⟨some 17,some (15,false),.load none,[.t 16]⟩ (DT.one ⟨some 18,some (15,false),.bin .eql,[.t 17,.c (i6 5)]⟩
 (DT.one ⟨some 19,none,.pick,[.t 15,.c (.bool true),.t 18]⟩ (DT.one ⟨some 22,none,.nilchk,[.t 10]⟩ (DT.one ⟨some 23,none,.fldA 5,[.t 22]⟩ (DT.one ⟨none,none,.store 1,
 [.t 23,.t 19]⟩
 DT.nil)))))))))))))))))))))))))))
theorem qzk:qM Tryz.prog 222 50 1 [] qxI:=fi Tryz.f222 [3] qb1 []
def qtw:C:=
 (((C.ops [MV 2 0,O1 3 .nilchk 2,O1 4 (.fldA 3) 3,LD 5 4]).seq (C.cond (.t 5) (C.ops [MV 6 0,O1 7 (.call 256 true) 6,MV 8 0,O1 9 .nilchk 8,O1 10 (.fldA 1) 9,O1 11 (.call 118
 false) 10,O1 12 .nilchk 7,O1 13 (.fldA 0) 12,ST 1 13 11]) C.skip)).seq ((C.ops [MV 14 0,O1 15 .nilchk 14,O1 16 (.fldA 3) 15,⟨none,none,.store 1,[.t 16,.c (.bool
 false)]⟩]).seq (C.ops [MV 17 0,O1 18 .nilchk 17,O1 19 (.fldA 1) 18,O1 20 (.call 257 false)
 19])))
theorem qsv:qM Tryz.prog 223 21 0 [] qtw:=fi Tryz.f223 [] qb1 []
def qps:C:=
 ((C.ops [O1 4 (.box 0 253) 1]).seq (((C.ops [MV 6 0,O1 7 .nilchk 6,O1 8 (.fldA 4) 7,LD 9 8,MV 10 9,MG 11 10 true 0,P1 12 10 true .nilchk 11,P1 13 10 true (.fldA 0) 12,P1 14
 10 true (.load none) 13,P1 15 10 true .len 14,PC 16 10 true (.bin .gtr) 15 (i6 0),PF 17 10 16]).seq (C.cond (.t 17) (C.ops [MV 18 2,BC 19 .or 18 (i6 16),MV 2 19]) C.skip)).seq
 (((C.ops [MV 20 0,O1 21 .nilchk 20,O1 22 (.fldA 5) 21,LD 23 22]).seq (C.cond (.t 23) (C.ops [MV 24 2,BC 25 .or 24 (i6 4),MV 2 25]) C.skip)).seq ((C.draw (DT.one ⟨some 26,
 none,.mv,[.t 0]⟩ (DT.one ⟨some 27,none,.mv,[.t 0]⟩ (DT.one ⟨some 31,none,.fldA 3,[.t 4]⟩ (DT.one ⟨some 32,none,.load (some 2),[.t 31]⟩ (DT.one ⟨some 33,none,.mv,[.t
 2]⟩ (DT.one ⟨some 34,none,.fldA 6,[.t 4]⟩ (DT.one ⟨some 35,none,.load none,[.t 34]⟩ (DT.one ⟨some 36,none,.build [.str [],.str [],.str [],i6 0,i6 0,.str []] [(2,2),
 (4,1),(5,1)],[.t 32,.t 33,.t 35]⟩ ((DT.one ⟨some 28,none,.nilchk,[.t 27]⟩ ((DT.one ⟨some 29,none,.fldA 0,[.t 28]⟩ ((DT.one ⟨some 30,none,.load none,[.t 29]⟩ (DT.one
 ⟨some 37,none,.bslc 1 6 1 103 [.str [],.str [],.str [],i6 0,i6 0,.str []] [(0,6)],[.t 36]⟩ (DT.one ⟨some 38,none,.app 2 6 103 80,[.t 30,.t 37]⟩ (DT.one ⟨some 39,none,
 .nilchk,[.t 26]⟩ (DT.one ⟨some 40,none,.fldA 0,[.t 39]⟩ (DT.one ⟨none,none,.store 1,[.t 40,.t 38]⟩ DT.nil)))))).two (DT.one ⟨some 37,none,.bslc 1 6 1 103 [.str [],.str
 [],.str [],i6 0,i6 0,.str []] [(0,6)],[.t 36]⟩ (DT.one ⟨some 30,none,.load none,[.t 29]⟩ (DT.one ⟨some 38,none,.app 2 6 103 80,[.t 30,.t 37]⟩ (DT.one ⟨some 39,none,
 .nilchk,[.t 26]⟩ (DT.one ⟨some 40,none,.fldA 0,[.t 39]⟩ (DT.one ⟨none,none,.store 1,[.t 40,.t 38]⟩ DT.nil)))))))).two (DT.one ⟨some 37,none,.bslc 1 6 1 103 [.str [],.str
 [],.str [],i6 0,i6 0,.str []] [(0,6)],[.t 36]⟩ (DT.one ⟨some 29,none,.fldA 0,[.t 28]⟩ (DT.one ⟨some 30,none,.load none,[.t 29]⟩ (DT.one ⟨some 38,none,.app 2 6 103 80,
 [.t 30,.t 37]⟩ (DT.one ⟨some 39,none,.nilchk,[.t 26]⟩ (DT.one ⟨some 40,none,.fldA 0,[.t 39]⟩ (DT.one ⟨none,none,.store 1,[.t 40,.t 38]⟩ DT.nil))))))))).two (DT.one ⟨some
 37,none,.bslc 1 6 1 103 [.str [],.str [],.str [],i6 0,i6 0,.str []] [(0,6)],[.t 36]⟩ (DT.one ⟨some 28,none,.nilchk,[.t 27]⟩ (DT.one ⟨some 29,none,.fldA 0,[.t 28]⟩
 (DT.one ⟨some 30,none,.load none,[.t 29]⟩ (DT.one ⟨some 38,none,.app 2 6 103 80,[.t 30,.t 37]⟩ (DT.one ⟨some 39,none,.nilchk,[.t 26]⟩ (DT.one ⟨some 40,none,.fldA 0,[.t
 39]⟩ (DT.one ⟨none,none,.store 1,[.t 40,.t 38]⟩ DT.nil)))))))))))))))))).seq (C.ops [MV 41 0,MV 42 0,O1 43 .nilchk 41,O1 44 (.fldA 4) 43,⟨none,none,.store 1,[.t 44,.c
 (.bool true)]⟩,O1 45 .nilchk 42,O1 46 (.fldA 5) 45,⟨none,none,.store 1,[.t 46,.c (.bool
 false)]⟩])))))
theorem ql4:qM Tryz.prog 255 47 3 [] qps:=fi Tryz.f255 [4,37,38] qb1 []
def qxV:C:=
 ((C.ops [MV 2 0,O1 3 .nilchk 2,O1 4 (.fldA 0) 3,⟨none,none,.store 1,[.t 4,.c .nilp]⟩]).seq (C.ops [MV 5 0,O1 6 .nilchk 5,O1 7 (.fldA 1) 6,⟨none,none,.store 1,[.t 7,.c
 .nl]⟩]))
theorem qzy:qM Tryz.prog 257 8 0 [] qxV:=fi Tryz.f257 [] qb1 []
def qxJ:C:=
 ((C.ops [ON 4 (.nilo 0 6 103) [],MC 5 (i6 0)]).seq (((C.ops [MV 9 1,O1 10 .len 9,MC 11 (i6 0)]).seq (C.block 0 ((C.ops [BI 12 .lss 11 10]).seq ((C.cond (.t 12) C.skip (C.exit
 0)).seq ((C.block 1 ((C.ops [MV 13 11,MV 6 13]).seq ((C.ops [MV 14 1,MV 15 6,MV 16 1,MV 17 6,O2 18 (.idxA 6) 16 17,O1 19 (.fldA 0) 18,LD 20 19,O2 21 (.idxA 6) 14 15,O1 22
 (.fldA 1) 21,ST 1 22 20]).seq (((C.ops [MV 23 1,MV 24 6,O2 25 (.idxA 6) 23 24,O1 26 (.load (some 6)) 25,O1 27 (.call 209 true) 26,O1 28 (.un UnOp.not) 27]).seq (C.cond (.t
 28) (C.exit 1) C.skip)).seq ((C.ops [MV 30 0,MV 31 1,MV 32 6,O2 33 (.idxA 6) 31 32,O1 34 (.fldA 0) 33,LD 35 34,O2 36 (.call 258 true) 30 35,MV 29 36,O1 37 (.ext 0) 29,O1
 38 (.ext 1) 29,MV 7 37,MV 8 38]).seq (((C.ops [MV 39 8,BC 40 .neq 39 (i6 0)]).seq (C.cond (.t 40) ((C.ops [MV 41 8,ON 4 (.nilo 0 6 103) [],MV 5 41]).seq C.ret) C.skip)).seq
 (C.ops [MV 42 1,MV 43 6,MV 44 7,O2 45 (.idxA 6) 42 43,O1 46 (.fldA 1) 45,ST 1 46 44]))))))).seq (C.ops [BC 47 .add 11 (i6 1),MV 11 47])))).loop)).seq ((C.ops [MV 48 1,MV 4
 48,MC 5 (i6 0)]).seq
 C.ret)))
theorem qzl:qM Tryz.prog 225 49 1 [RV.tmp 4,RV.tmp 5] qxJ:=fi Tryz.f225 [4] qb1 []
end
section
open Go Go.Proofs AF HY LN
namespace RC
theorem itN(s:Str):qoX Tryz.prog 275 [.ip [kg s]] [[.agg (plC s)]]:=by
 intro h ts LI S E hS hE body start hts;have hb:(h++ [AObj.lp LS.ready ts LI]).length=h.length+1:=by simp
 have ea: ∀st,h++ [AObj.lp st ts LI]++ [.mem 1 297 [.yld h.length],.mem 1 298 [.fn (.func 276) [] [.op (h.length+1) 1 0,.op (h.length+2) 1 0]]]=h++ [AObj.lp st ts LI,cyl h.length,cwk h.length]:=fun st=>by simp[cyl,cwk]
 refine acQ qzA ?_;simp (disch:=omega) only[qxX,kg,go_sem]
 repeat' first
  |with_reducible apply aiA
 all_goals try exact clz
 simp only[hb,Nat.add_assoc,Nat.reduceAdd,ea];refine qk7 (wlk1 s h ts LI S E hS hE body start hts) ?_;rintro v h' ⟨hh',⟨rfl,hn,rfl⟩|⟨st,rfl,hs',rfl⟩⟩
 ·simp (disch:=omega) only[go_sem];obtain⟨r1,r2⟩:=(hS _ _ hn).retX (L:=LI) (xs:= []) .ready hts;have eO:hh'++ [.lp .ready ts LI,cyl h.length,cwk h.length]=(hh'++ [.lp .ready ts LI])++ [cyl h.length,cwk h.length]:=by simp
  rw[eO];exact zO trivial r1 r2 ⟨hh',.inl ⟨hn,rfl⟩⟩ (qi)
 ·simp (disch:=omega) only[go_sem];obtain⟨r1,r2⟩:=(hE _ _ hs').retX (L:=LI) (xs:= []) st hts;have eO:hh'++ [.lp st ts LI,cyl h.length,cwk h.length]=(hh'++ [.lp st ts LI])++ [cyl h.length,cwk h.length]:=by simp
  rw[eO];exact zO trivial r1 r2 ⟨hh',.inr ⟨st,hs',rfl⟩⟩ (qi)
theorem qvo(s:Str)(h:List AObj):ACalls Tryz.prog 248 [kg s] h (.fn (.func 275) [] [.ip [kg s]]) h:=by
 refine acO qzs ?_;simp (disch:=omega) only[qxP,kg,ndC,go_sem]
 repeat' first
  |(apply qb;exact rvk;simp only[go_sem];exact qi)
theorem qFI(n:Int)(k v:Nat)(h:List AObj)(hk:qr k h=some (.mem v 3 [.int .i64 n]))(h0:1≤n)(h1:n≤4096):ACalls Tryz.prog 247 [.op k v 0] h (.bool true) (qn k h (.mem v 3 [.int .i64 (n-1)])):=by
 have hkl:=zG hk;have c1:=qP hk;have k1:(0≤n-1)=True:=eqt om;have ht:qjF (qr k h)=3:=by rw[hk];rfl
 refine acO qzr ?_;simp (disch:=omega) only[qxO,c1,k1,go_sem]
 repeat' first
  |with_reducible apply aiA
 all_goals try exact clz
 rw[ht];exact qhy ⟨trivial,trivial⟩ qL (qqB (fun n c hc=>by simp at hc;subst hc;rfl)) ⟨rfl,rfl⟩ (qi)
theorem qgD(s:Str)(v:Nat)(ty:TypeId): ∀n,lowO n (.mem v ty (plC s)):=fun n c hc=>by
 simp[plC]at hc;rcases hc with rfl|rfl|rfl|rfl|rfl|rfl<;>rfl
theorem qEw(s:Str)(k:Int)(h:List AObj)(h1:2≤k)(h2:k≤11)(hc: ∀l,ACalls Tryz.prog 218 [kg s] (h++l) (.int .i64 0) (h++l)):ACalls Tryz.prog 220 [kg s,.int .i64 k] h (.tup [.int .i64 0,.int .i64 0]) h:=by
 have c1:=fun h=>qvo s h
 have k1:(k<1)=False:=eqf om;have k2:(11<k)=False:=eqf om;have k3:((1:Int)=k)=False:=eqf om;unfold kg at c1 hc;refine acO qzi ?_;simp (disch:=omega) only[qxG,kg,go_sem]
 repeat' first
  |((first|refine cA (hc _) ?_ ?_|refine cA (c1 _) ?_ ?_);exact flk;simp (disch:=omega) only[k1,k2,go_sem])
  |with_reducible apply aiA
 all_goals try exact clz
 refine zy (xs:= [[.agg (plC s)]]) (itN s) (by simp)
  (S:=fun i hh=> ∃O,qJ [O] 0=true∧(∀n,lowO n O)∧hh=h++ [.mem 1 3 [.int .i64 k],.mem 1 3 [.int .i64 0],O]) (E:=fun _ _=>False) ?_ ?_ ?_ ?_ ?_ ?_ ?_
 ·rintro i hh ⟨O,_,l1,rfl⟩;refine LowI.app rfl (fun o ho=> ?_);simp only[List.mem_cons,List.not_mem_nil,or_false]at ho;rcases ho with rfl|rfl|rfl
  ·left;simp
  ·left;simp
  ·right;exact⟨l1 _,l1 _⟩
 ·intro s hh hf;exact hf.elim
 ·exact⟨.emp 0,rfl,fun _=>trivial,rfl⟩
 ·simp[qV,qV.lowVs]
  try omega
 ·rintro i hh tl LI TS hi ⟨O,s1,l1,rfl⟩ hlen K K2 hK hN hR' hX;obtain rfl:i=0:=by simp at hi;omega
  have s1': ∀m,qJ (O::m) 0=true:=fun _=>s1
  show qX _ _ _ _ (kJ _ _ [.agg (plC s)]) _;simp only[kJ];simp (disch:=omega) only[List.append_assoc,plC,s1',go_sem];refine hK _ _ (h++ [.mem 1 3 [.int .i64 k],.mem 1 3 [.int .i64 0],.mem (qo (some O)+1) 278 (plC s)]) (by simp[plC]) (by simp) ?_;simp (disch:=omega) only[List.append_assoc,plC,k3,go_sem]
  repeat' first
   |with_reducible apply aiA
  all_goals try exact clz
  refine hN _ _ (h++ [.mem 1 3 [.int .i64 k],.mem 1 3 [.int .i64 0],.mem (qo (some O)+1) 278 (plC s)]) (by simp[plC]) (by simp) ⟨.mem (qo (some O)+1) 278 (plC s),rfl,qgD s _ _,rfl⟩
 ·rintro hh ⟨O,s1,l1,rfl⟩;simp (disch:=omega) only[go_sem]
  repeat' first
   |(apply qb;exact rvk;simp only[go_sem];exact qi)
   |with_reducible apply aiA
  all_goals try exact clz
 ·intro e hh hf;exact hf.elim
end RC
end
section
open Go Go.Proofs AF
def quE:List Nat:= [117,118,280,257,222,254,223,255,225]
def qxR:C:=
 ((C.ops [MC 2 (.str [])]).seq ((C.ops [⟨some 3,none,.alloc 0 155 [.nilp,.nl],[]⟩]).seq ((C.ops [⟨some 4,none,.alloc 1 302 [.nilfn],[]⟩]).seq ((C.ops [O2 5 (.mkfn (Fn.func
 277) 0) 3 4,ST 1 4 5]).seq ((C.wk.seq (C.ops [LD 6 4,MV 7 0,O2 8 .callv 6 7])).seq ((C.ops [O1 9 (.call 118 false) 3,MV 2 9]).seq
 C.ret))))))
theorem qzu:qM Tryz.prog 250 10 3 [RV.tmp 2] qxR:=fi Tryz.f250 [3,4,8] quE [4]
end
section
open Go Go.Proofs AF HY LN
namespace RC
theorem qF7(s:Str)(kb vb kj v kw:Nat)(h:List AObj)(hne:kj≠kb)(hk:qr kb h=some (.mem vb 155 [.nilp,.osl kj v 1 0 0]))(hj:qr kj h=some (.emp v))(hl:s.length≤1000000)(hs:s≠ [])(hg:zK h frmN frmC):
  ACalls Tryz.prog 277 [kg s,.op kb vb 0,.op kw 1 0] h (.tup []) (qn kj (qn kb h (.mem vb 155 [.op kb vb 0,.osl kj (v+1) 1 0 s.length])) (qds (v+1) s)):=by
 have hkl:=zG hk;have hjl:=zG hj;refine acO qzB ?_;simp (disch:=omega) only[qxY,kg,ndC,go_sem];obtain⟨H1,hH1⟩: ∃H1,H1=qn kj (qn kb h (.mem vb 155 [.op kb vb 0,.osl kj (v+1) 1 0 s.length])) (qds (v+1) s):=⟨_,rfl⟩
 rw[←hH1];have hH1l:H1.length=h.length:=by rw[hH1];simp only[qL]
 refine qu (T:=fun i:Nat×AObj×AObj=>ze 53 [(1,.op kb vb 0),(2,.op kw 1 0),(7,kg s),(8,.int .i64 ((1:Nat):Int)),(9,.int .i64 i.1)])
  (H:=fun i=>(if i.1=0 then h else H1)++ [i.2.1,i.2.2])
  (inv:=fun i=>i.1≤1∧qJ [i.2.1] 0=true∧qJ [i.2.2] 0=true) (m:=fun i=>1-i.1) (0,.emp 0,.emp 0) ⟨nzl _,rfl,rfl⟩ (Wk.temps ?_) ?_
 ·(simp only[kg,ndC,go_sem,qg,qc,qa,qf];try (repeat' first|(with_reducible apply aiA)|(apply qh;omega)|(apply qe;rfl)|exact qi))
 rintro⟨i,O5,O6⟩ ⟨i1,i2,i3⟩ K hK;simp only at i1 i2 i3 hK;have i2': ∀m,qJ (O5::m) 0=true:=fun _=>i2
 have i3': ∀m,qJ (O6::m) 0=true:=fun _=>i3
 by_cases hi:i<1
 ·obtain rfl:i=0:=by omega
  simp only[if_true];simp (disch:=omega) only[kg,ndC,i2',go_sem]
  repeat' first
   |with_reducible first|intro _|apply aiA
  all_goals try exact clz
  refine qsF (cs:=frmC) hg.app ⟨by decide,by decide⟩ rfl ?_;rw[qsB];simp (disch:=omega) only[qzY,i3',go_sem];refine qx (qF6 kb vb kj v .nilp [] s _ hne (by rw[zz hkl];exact hk) (.inl rfl) (by rw[zz hjl];exact hj) (by simp;omega)) (by exact flk) ?_;have eH: ∀l,qn kj (qn kb (h++l) (.mem vb 155 [.op kb vb 0,.osl kj (v+1) 1 0 (([]:Str).length+s.length)])) (qds (v+1) ([]++s))=H1++l:=fun l=>by
   rw[hH1,lnl,Nat.zero_add,lna,zC hkl,zC (by rw[qL];exact hjl)]
  rw[eH];simp (disch:=omega) only[go_sem];refine hK _ _ (1,.mem (qo (some O5)+1) 189 (ndC s),.mem (qo (some O6)+1) 300 qzY) ⟨nlr _,rfl,rfl⟩ (by simp only;omega) ?_;rw[ine (by simp)];simp only[ndC,qzY];refine Wk.temps ?_
  (simp only[kg,ndC,go_sem,qg,qc,qa,qf];try (repeat' first|(with_reducible apply aiA)|(apply qh;omega)|(apply qe;rfl)|exact qi))
 ·obtain rfl:i=1:=by omega
  rw[ine (by simp)];simp (disch:=omega) only[kg,ndC,go_sem]
  repeat' first
   |with_reducible first|intro _|apply aiA
  all_goals try exact clz
  refine zO trivial hH1l ?_ ⟨rfl,rfl⟩ (qi);rw[hH1];exact qeb hkl hjl
theorem qDo(s:Str)(h:List AObj)(hl:s.length≤1000000)(hs:s≠ [])(hg:zK h frmN frmC):ACalls Tryz.prog 250 [kg s] h (.str s) h:=by
 refine acO qzu ?_;simp (disch:=omega) only[qxR,kg,go_sem];refine⟨_,_,Wk.ownNil (j:=h.length) (i:=1) (k:=h.length+2) (v:=1) (ty:=155) (cs:= [.nilp,.nl]) (ve:=0) (sz:=1) ?m1 rfl ?m2,?_⟩
 case m1=>simp only[go_sem]
 case m2=>simp only[go_sem]
 simp (disch:=omega) only[List.set_cons_zero,List.set_cons_succ,go_sem]
 repeat' first
  |with_reducible apply aiA
 all_goals try exact clz
 refine kA (qF7 s h.length 1 (h.length+2) 0 (h.length+1) _ om (by simp only[go_sem]) (by simp only[go_sem]) hl hs hg.app) ?_;simp (disch:=omega) only[go_sem];refine qx (qFM h.length 1 (h.length+2) 1 (.op h.length 1 0) s _ om (by simp only[go_sem]) (by simp only[go_sem])) (by exact flk) ?_;simp (disch:=omega) only[go_sem]
 repeat' first
  |(apply qb;exact rvk;simp only[go_sem];exact qi)
theorem qCt(s:Str)(h:List AObj)(hl:s.length≤1000000)(hl2:s.length≤65536)(hs:s≠ [])(hc:zU s=0)(hg:zK h frmN frmC):ACalls Tryz.prog 218 [kg s] h (.int .i64 0) h:=by
 have c1:=fun h=>qvo s h
 unfold kg at c1;obtain⟨cs,hcs⟩: ∃cs,cs=AObj.mem 1 32 [.fn (.func 247) [] [.op (h.length+1) 1 0]]:=⟨_,rfl⟩
 refine acO qzg ?_;simp (disch:=omega) only[qxE,kg,go_sem]
 repeat' first
  |(refine cA (c1 _) flk ?_;simp (disch:=omega) only[go_sem])
 refine zy (xs:= [[.agg (plC s)]]) (itN s) (by simp)
  (S:=fun i hh=> ∃O,qJ [O] 0=true∧(∀n,lowO n O)∧hh=h++ [.mem 1 33 [.int .i64 0],.mem 1 3 [.int .i64 (4096-i)],cs,O,.emp 0]) (E:=fun _ _=>False) ?_ ?_ ?_ ?_ ?_ ?_ ?_
 ·rintro i hh ⟨O,_,l1,rfl⟩;refine LowI.app rfl (fun o ho=> ?_);simp only[List.mem_cons,List.not_mem_nil,or_false]at ho;rcases ho with rfl|rfl|rfl|rfl|rfl
  ·left;simp
  ·right;exact⟨fun c hc=>(by simp at hc;subst hc;rfl),fun c hc=>(by simp at hc;subst hc;rfl)⟩
  ·left;rw[hcs];simp
  ·right;exact⟨l1 _,l1 _⟩
  ·left;simp
 ·intro s hh hf;exact hf.elim
 ·exact⟨.emp 0,rfl,fun _=>trivial,by rw[hcs];rfl⟩
 ·simp[qV,qV.lowVs]
  try omega
 ·rintro i hh tl LI TS hi ⟨O,s1,l1,rfl⟩ hlen K K2 hK hN hR' hX;obtain rfl:i=0:=by simp at hi;omega
  have s1': ∀m,qJ (O::m) 0=true:=fun _=>s1
  show qX _ _ _ _ (kJ _ _ [.agg (plC s)]) _;simp only[kJ];simp (disch:=omega) only[List.append_assoc,plC,s1',go_sem];refine hK _ _ (h++ [.mem 1 33 [.int .i64 0],.mem 1 3 [.int .i64 4096],cs,.mem (qo (some O)+1) 278 (plC s),.emp 0]) (by simp[plC]) (by simp) ?_;rw[hcs];simp (disch:=omega) only[List.append_assoc,plC,go_sem]
  repeat' first
   |with_reducible apply aiA
  all_goals try exact clz
  refine kA (qFI 4096 (h.length+1) 1 _ (by simp only[go_sem]) om om) ?_;simp (disch:=omega) only[go_sem]
  repeat' first
   |with_reducible first|intro _|apply aiA
  all_goals try exact clz
  refine hN _ _ (h++ [.mem 1 33 [.int .i64 0],.mem 1 3 [.int .i64 4095],cs,.mem (qo (some O)+1) 278 (plC s),.emp 0]) (by rw[hcs];simp[plC]) (by simp) ⟨.mem (qo (some O)+1) 278 (plC s),rfl,qgD s _ _,rfl⟩
 ·rintro hh ⟨O,s1,l1,rfl⟩;have c2:=fun h=>qvo s h
  unfold kg at c2;rw[hcs];simp (disch:=omega) only[go_sem]
  repeat' first
   |(refine cA (c2 _) flk ?_;simp (disch:=omega) only[go_sem])
  have c5:=fun l=>qFB s (h++l) hs hl hc hg.app
  have c6:=fun l=>qDo s (h++l) hl hs hg.app
  unfold kg at c6;unfold plC at c5;refine zy (xs:= [[.agg (plC s)]]) (itN s) (by simp)
   (S:=fun i hh=> ∃O6,qJ [O6] 0=true∧(∀n,lowO n O6)∧hh=h++ [.mem 1 33 [.int .i64 0],.mem 1 3 [.int .i64 4095],cs,O,O6]) (E:=fun _ _=>False) ?_ ?_ ?_ ?_ ?_ ?_ ?_
  ·rintro i hh ⟨O6,_,l2,rfl⟩;refine LowI.app rfl (fun o ho=> ?_);simp only[List.mem_cons,List.not_mem_nil,or_false]at ho;rcases ho with rfl|rfl|rfl|rfl|rfl
   ·left;simp
   ·left;simp
   ·left;rw[hcs];simp
   ·left;simp
   ·right;exact⟨l2 _,l2 _⟩
  ·intro s hh hf;exact hf.elim
  ·exact⟨.emp 0,rfl,fun _=>trivial,by rw[hcs];rfl⟩
  ·simp[qV,qV.lowVs]
   try omega
  ·rintro i hh tl LI TS hi ⟨O6,s6,l6,rfl⟩ hlen K K2 hK hN hR' hX;obtain rfl:i=0:=by simp at hi;omega
   have s6': ∀m,qJ (O6::m) 0=true:=fun _=>s6
   show qX _ _ _ _ (kJ _ _ [.agg (plC s)]) _;simp only[kJ];simp (disch:=omega) only[List.append_assoc,plC,s6',go_sem];refine hK _ _ (h++ [.mem 1 33 [.int .i64 0],.mem 1 3 [.int .i64 4095],cs,O,.mem (qo (some O6)+1) 278 (plC s)]) (by simp[plC]) (by simp) ?_;simp (disch:=omega) only[List.append_assoc,plC,go_sem]
   repeat' first
    |(refine cA (c5 _) flk ?_;simp (disch:=omega) only[go_sem])
   refine hN _ _ (h++ [.mem 1 33 [.int .i64 0],.mem 1 3 [.int .i64 4095],cs,O,.mem (qo (some O6)+1) 278 (plC s)]) (by simp[plC]) (by simp) ⟨.mem (qo (some O6)+1) 278 (plC s),rfl,qgD s _ _,rfl⟩
  ·rintro hh ⟨O6,s6,l6,rfl⟩;have k1:((65536:Int)<s.length)=False:=eqf om;simp (disch:=omega) only[go_sem]
   repeat' first
    |(refine cA (c6 _) flk ?_;simp (disch:=omega) only[k1,go_sem])
    |(apply qb;exact rvk;simp only[go_sem];exact qi)
  ·intro e hh hf;exact hf.elim
 ·intro e hh hf;exact hf.elim
theorem qEH(h:List AObj):ACalls Tryz.prog 219 [.nl] h (.int .i64 0) h:=by
 refine acO qzh ?_;simp (disch:=omega) only[qxF,go_sem]
 repeat' first
  |(apply qb;exact rvk;simp only[go_sem];apply qh)
  |with_reducible first|intro _|apply aiA
 all_goals try exact clz
 refine qu (T:=fun _:Unit=>ze 21 [(9,.nl),(10,.int .i64 0),(11,.int .i64 0)]) (H:=fun _=>h++ [.emp 0]) (inv:=fun _=>True) (m:=fun _=>0) () trivial (Wk.temps ?_) ?_
 ·(simp only[go_sem,qg,qc,qa,qf];try (repeat' first|(with_reducible apply aiA)|(apply qh;omega)|(apply qe;rfl)|exact qi))
 rintro⟨⟩ _ K hK;simp (disch:=omega) only[go_sem]
 repeat' first
  |(apply qb;exact rvk;simp only[go_sem];exact qi)
  |with_reducible first|intro _|apply aiA
 all_goals try exact clz
theorem qF0(s:Str)(h:List AObj)(hs:s.length≤1000000)(hw: ∀i,i<s.length→qaV (ch s i)=true):ACalls Tryz.prog 279 [.str s] h (.bool true) h:=by
 refine acO qzC ?_;simp (disch:=omega) only[qxZ,go_sem];refine qu (T:=fun i:Nat=>ze 19 [(0,.str s),(4,.str s),(5,.int .i64 s.length),(6,.int .i64 i)]) (H:=fun _=>h) (inv:=fun i=>i≤s.length) (m:=fun i=>s.length-i) 0 (nzl _) (Wk.temps ?_) ?_
 ·(simp only[go_sem,qg,qc,qa,qf];try (repeat' first|(with_reducible apply aiA)|(apply qh;omega)|(apply qe;rfl)|exact qi))
 rintro i i1 K hK
 by_cases hi:i<s.length
 ·have k1:((i:Int)<s.length)=True:=eqt om;have e:(s[i]?).getD 0=ch s i:=by simp[ch,gdqA]
  have c1:=fun h=>qcE (ch s i) h
  have g:=hw i hi;unfold qaV at g;simp only[Bool.or_eq_true,decide_eq_true_eq]at g;obtain⟨k,hk⟩: ∃k,k=kind (ch s i):=⟨_,rfl⟩
  rw[←hk]at g;simp only[←hk]at c1
  by_cases g1:k=1
  ·subst g1;simp (disch:=omega) only[k1,e,go_sem]
   repeat' first
    |(refine cA (c1 _) flk ?_;simp (disch:=omega) only[go_sem])
    |with_reducible apply aiA
   all_goals try exact clz
   refine hK _ _ (i+1) hi om (Wk.temps ?_)
   (simp only[go_sem,qg,qc,qa,qf];try (repeat' first|(with_reducible apply aiA)|(apply qh;omega)|(apply qe;rfl)|exact qi))
  by_cases g2:k=2
  ·subst g2;simp (disch:=omega) only[k1,e,go_sem]
   repeat' first
    |(refine cA (c1 _) flk ?_;simp (disch:=omega) only[go_sem])
    |(apply qd;exact rvk;simp only[go_sem];apply qe)
    |with_reducible first|intro _|apply aiA
   all_goals try exact clz
   refine hK _ _ (i+1) hi om (Wk.temps ?_)
   (simp only[go_sem,qg,qc,qa,qf];try (repeat' first|(with_reducible apply aiA)|(apply qh;omega)|(apply qe;rfl)|exact qi))
  by_cases g3:k=3
  ·subst g3;simp (disch:=omega) only[k1,e,go_sem]
   repeat' first
    |(refine cA (c1 _) flk ?_;simp (disch:=omega) only[go_sem])
    |(apply qd;exact rvk;simp only[go_sem];apply qe)
    |with_reducible first|intro _|apply aiA
   all_goals try exact clz
   refine hK _ _ (i+1) hi om (Wk.temps ?_)
   (simp only[go_sem,qg,qc,qa,qf];try (repeat' first|(with_reducible apply aiA)|(apply qh;omega)|(apply qe;rfl)|exact qi))
  obtain rfl:k=4:=by omega
  simp (disch:=omega) only[k1,e,go_sem]
  repeat' first
   |(refine cA (c1 _) flk ?_;simp (disch:=omega) only[go_sem])
   |(apply qd;exact rvk;simp only[go_sem];apply qe)
   |with_reducible first|intro _|apply aiA
  all_goals try exact clz
  refine hK _ _ (i+1) hi om (Wk.temps ?_)
  (simp only[go_sem,qg,qc,qa,qf];try (repeat' first|(with_reducible apply aiA)|(apply qh;omega)|(apply qe;rfl)|exact qi))
 have k1:((i:Int)<s.length)=False:=eqf om;simp (disch:=omega) only[k1,go_sem]
 repeat' first
  |(apply qd;exact rvk;simp only[go_sem];exact qi)
theorem qFj(s:Str)(hs:s.length≤1000000):qoX Tryz.prog 307 [.ip [.str s],.ip [.nl]] []:=by
 intro h ts LI S E hS hE body start hts;refine acQ qzK ?_;simp (disch:=omega) only[qx6,go_sem]
 repeat' first
  |with_reducible apply aiA
 all_goals try exact clz
 refine qu (T:=fun i:Nat=>ze 45 [(0,.yld h.length),(1,.ip [.str s]),(2,.ip [.nl]),(10,.int .i64 s.length),(11,.int .i64 i)]) (H:=fun _=>h++ [.lp .ready ts LI]++ [.emp 0]) (inv:=fun i=>i≤s.length) (m:=fun i=>s.length-i) 0 (nzl _) (Wk.temps ?_) ?_
 ·(simp only[go_sem,qg,qc,qa,qf];try (repeat' first|(with_reducible apply aiA)|(apply qh;omega)|(apply qe;rfl)|exact qi))
 rintro i i1 K hK
 by_cases hi:i<s.length
 ·have k1:((i:Int)<s.length)=True:=eqt om;simp (disch:=omega) only[k1,go_sem]
  repeat' first
   |with_reducible apply aiA
  all_goals try exact clz
  refine qu (T:=fun _:Unit=>ze 45 [(0,.yld h.length),(1,.ip [.str s]),(2,.ip [.nl]),(4,.int .i64 i),(10,.int .i64 s.length),(11,.int .i64 i),(14,.nl),(15,.int .i64 0),(16,.int .i64 0)]) (H:=fun _=>h++ [.lp .ready ts LI]++ [.emp 0]) (inv:=fun _=>True) (m:=fun _=>0) () trivial (Wk.temps ?_) ?_
  ·(simp only[go_sem,qg,qc,qa,qf];try (repeat' first|(with_reducible apply aiA)|(apply qh;omega)|(apply qe;rfl)|exact qi))
  rintro⟨⟩ _ K' hK';simp (disch:=omega) only[go_sem]
  repeat' first
   |with_reducible first|intro _|apply aiA
  all_goals try exact clz
  refine hK _ _ (i+1) hi om (Wk.temps ?_)
  (simp only[go_sem,qg,qc,qa,qf];try (repeat' first|(with_reducible apply aiA)|(apply qh;omega)|(apply qe;rfl)|exact qi))
 have k1:((i:Int)<s.length)=False:=eqf om;simp (disch:=omega) only[k1,go_sem];obtain⟨r1,r2⟩:=(hS _ _ start).retX (L:=LI) (xs:= []) .ready hts;exact zO trivial r1 r2 ⟨h,.inl ⟨start,rfl⟩⟩ (qi)
theorem qFy(s:Str)(h:List AObj):ACalls Tryz.prog 306 [.nl,.str s] h (.fn (.func 307) [] [.ip [.str s],.ip [.nl]]) h:=by
 refine acO qzJ ?_;simp (disch:=omega) only[qx5,go_sem]
 repeat' first
  |(apply qb;exact rvk;simp only[go_sem];exact qi)
theorem qFL(s:Str)(h:List AObj)(hs:s.length≤1000000):ACalls Tryz.prog 303 [.nl,.str s] h (.tup [.str s,.bool false]) h:=by
 have c1:=fun h=>qFy s h
 refine acO qzI ?_;simp (disch:=omega) only[qx4,go_sem]
 repeat' first
  |(refine cA (c1 _) flk ?_;simp (disch:=omega) only[go_sem])
 refine zy (xs:= []) (qFj s hs) (by simp) (S:=fun i hh=>hh=h++ [.mem 1 9 [.str []],.mem 1 4 [.bool false]]) (E:=fun _ _=>False) ?_ ?_ ?_ ?_ ?_ ?_ ?_
 ·rintro i hh rfl;exact LowI.refl _
 ·intro s hh hf;exact hf.elim
 ·rfl
 ·simp[qV,qV.lowVs]
  try omega
 ·rintro i hh tl LI TS hi;exact absurd hi (by simp)
 ·rintro hh rfl;simp (disch:=omega) only[go_sem]
  repeat' first
   |(apply qb;exact rvk;simp only[go_sem];exact qi)
 ·intro e hh hf;exact hf.elim
theorem qFV(s:Str)(h:List AObj)(hs:s.length≤1000000):ACalls Tryz.prog 295 [.nl,.str s] h (.tup [strs [s],.int .i64 0]) h:=by
 have c1:=fun h=>qFL s h hs
 refine acO qzG ?_;simp (disch:=omega) only[qx3,go_sem];refine qu (T:=fun _:Unit=>ze 32 [(0,.nl),(6,.osl (h.length+1) 1 1 0 1)]) (H:=fun _=>h++ [.emp 1,.mem 1 9 [.str s],.emp 0,.emp 0]) (inv:=fun _=>True) (m:=fun _=>0) () trivial (Wk.temps ?_) ?_
 ·(simp only[go_sem,qg,qc,qa,qf];try (repeat' first|(with_reducible apply aiA)|(apply qh;omega)|(apply qe;rfl)|exact qi))
 rintro⟨⟩ _ K hK;simp (disch:=omega) only[go_sem]
 repeat' first
  |(refine cA (c1 _) flk ?_;simp (disch:=omega) only[go_sem])
  |(apply qb;exact rvk;simp only[go_sem])
  |with_reducible apply aiA
 all_goals try exact clz
 refine qs7 ⟨VLe.sl_eq rfl (fun i hi=> ?_),qi,trivial⟩;obtain rfl:i=0:=by simp at hi;omega
 rfl
theorem qEN(s:Str)(h:List AObj)(hs:s.length≤64)(hw: ∀i,i<s.length→qaV (ch s i)=true):ACalls Tryz.prog 281 [.nl,.str s] h (.tup [strs [s],.int .i64 0]) h:=by
 have c1:=fun h=>qFV s h om
 have c2: ∀h,ACalls Tryz.prog 294 [.nl,.str s] h (.int .i64 0) h:=fun h=>by
  have d1:=fun h=>qEH h
  have d2:=fun h=>qF0 s h om hw
  have k1:((64:Int)<s.length)=False:=eqf om;refine acO qzF ?_;simp (disch:=omega) only[qx2,go_sem]
  repeat' first
   |((first|refine cA (d1 _) ?_ ?_|refine cA (d2 _) ?_ ?_);exact flk;simp (disch:=omega) only[k1,go_sem])
   |(apply qd;exact rvk;simp only[go_sem];exact qi)
 refine acO qzE ?_;simp (disch:=omega) only[qx1,go_sem]
 repeat' first
  |((first|refine cA (c1 _) ?_ ?_|refine cA (c2 _) ?_ ?_);exact flk;simp (disch:=omega) only[go_sem])
  |(apply qb;exact rvk;simp only[go_sem];exact qi)
  |with_reducible apply aiA
 all_goals try exact clz
theorem qDs(s:Str)(h:List AObj)(hs:s.length≤64)(hw: ∀i,i<s.length→qaV (ch s i)=true):ACalls Tryz.prog 258 [.nl,.str s] h (.tup [.str s,.int .i64 0]) h:=by
 have c1:=fun h=>qEN s h hs hw
 unfold strs at c1;refine acO qzz ?_;simp (disch:=omega) only[qxW,go_sem]
 repeat' first
  |(refine cA (c1 _) flk ?_;simp (disch:=omega) only[go_sem])
  |(apply qd;exact rvk;simp only[go_sem];exact qi)
  |with_reducible apply aiA
 all_goals try exact clz
end RC
end
