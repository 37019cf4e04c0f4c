import Derived.Test.YtmieflnoheifbaaGreatDoorK10
import Derived.Shelf.Slices.In.SortAlone
import Derived.Shelf.Slices.In.CompactI
import Derived.Test.YtmieflnoheifbaaGreatDoorProg
import Derived.Test.YtmieflnoheifbaaGreatDoorK9
import Derived.Sort.OwnSortedInts
import Derived.Test.YtmieflnoheifbaaGreatDoorK3
import Derived.Test.YtmieflnoheifbaaGreatDoorK5
import Derived.Test.YtmieflnoheifbaaGreatDoorK8
set_option linter.all false
set_option maxHeartbeats 64000000
set_option maxRecDepth 100000
section
open Go Go.Proofs AF HY LN
namespace RC
def zN(x:Co)(g:Str):Int:=qbF (λj=>decide (g=x.sig.getD j [])) x.sig.length 0
def kW(x:Co)(s:Nat)(t:Int):Int:=qbF (λk=>decide ((x.col.getD k []).getD s 0=t)) x.col.length 0
def eE(x:Co)(l:List Un)(o:Dc):Int:=fnU l (kW x (zN x o.sig).toNat o.tok)
def tkB(x:Co)(o:Dc):Bool:=decide (0<=zN x o.sig)&&(decide (0<=o.tok)&&decide (o.tok<((x.tok.getD (zN x o.sig).toNat []).length:Int)))
def cjE(o:Dc):Int:=if o.kind=2 then (if qi6 o.txt≠0 then qi6 o.txt else if qsj o.txt= [] then 5 else 0) else 0
def qdF(x:Co)(l:List Un)(o:Dc):Int:=
 if o.kind<1∨3<o.kind then 8 else if o.txt≠ []∧o.kind≠2 then 1 else if tkB x o=false then 6 else if eE x l o<0 then 20 else cjE o
def qbt(x:Co)(l:List Un)(d:List Dc):Int:=if 256<d.length then 4 else qaM (λi=>qdF x l (d.getD i default)) 0 d.length
theorem qg8{x:Co}{o:Dc}(h:tkB x o=true):0<=zN x o.sig∧(zN x o.sig).toNat<x.sig.length∧x.sig.getD (zN x o.sig).toNat []=o.sig∧0<=o.tok∧o.tok<((x.tok.getD (zN x o.sig).toNat []).length:Int):=by
 unfold tkB at h;rw[Bool.and_eq_true,Bool.and_eq_true,decide_eq_true_iff,decide_eq_true_iff,decide_eq_true_iff]at h;obtain⟨h1,h2,h3⟩:=h;rcases zT (λj=>decide (o.sig=x.sig.getD j [])) x.sig.length with⟨i,g1,g2,_,g4⟩|⟨_,g2⟩
 ·have e:zN x o.sig=i:=g4;rw[e]at h1 h3 ⊢;exact⟨h1,g1,(of_decide_eq_true g2).symm,h2,h3⟩
 ·have e:zN x o.sig= -1:=g2;omega
theorem qaU{x:Co}{l:List Un}{o:Dc}(h:qdF x l o=0):1<=o.kind∧o.kind<=3∧(o.txt= []∨o.kind=2)∧tkB x o=true∧0<=eE x l o∧cjE o=0:=by
 unfold qdF at h;split at h
 ·cases h
 split at h
 ·cases h
 split at h
 ·cases h
 split at h
 ·cases h
 rename_i h1 h2 h3 h4;refine⟨om,om,?_,by simpa using h3,om,h⟩
 by_cases e:o.txt= []
 ·exact .inl e
 ·exact .inr (Classical.not_not.1 λhc=>h2 ⟨e,hc⟩)
theorem qkx{o:Dc}(h:cjE o=0)(hk:o.kind=2):zG o.txt=0∧qhb o.txt=0∧qed o.txt≠ []∧o.txt≠ []:=by
 unfold cjE at h;rw[ipo hk]at h;split at h
 ·rename_i e;exact absurd h e
 rename_i h1;have h1:=Classical.not_not.1 h1;split at h
 ·cases h
 rename_i h2;unfold qsj at h2;rw[ipo h1]at h2;have h3:qed o.txt≠ []:=λe=>h2 (by rw[e];rfl)
 unfold qi6 at h1;split at h1
 ·rename_i e;exact absurd h1 e
 rename_i g;exact⟨Classical.not_not.1 g,h1,h3,λe=>h3 (by rw[e];rfl)⟩
structure Pc where
 t:Tk
 c:Int
instance:Inhabited Pc:=⟨⟨default,0⟩⟩
def pcB(x:Co)(s k:Nat):Bool:=decide (0<=(x.col.getD k []).getD s 0)
def pcT(x:Co)(s k:Nat):Pc:=⟨(x.tok.getD s []).getD ((x.col.getD k []).getD s 0).toNat default,(k:Int)⟩
def spk(x:Co)(s f:Nat):Nat->List Pc
 |0=> []
 |d+1=>spk x s f d++if pcB x s (f+d)=true then [pcT x s (f+d)] else []
structure Rw where
 p:Pc
 u:Int
 d:Int
instance:Inhabited Rw:=⟨⟨default,0,0⟩⟩
def qC9(f:Int):Bool:=f.toNat.testBit 2
def jnB(f:Int):Bool:=f.toNat.testBit 4
def qCE(b s:Str):Bool:=if jr b=true then !jr s&& !decide (s= [39]) else true
def mkW(pv:Option Str)(r:Rw):Wd:=⟨r.p.t.text,r.p.c,r.u,r.d,jnB r.p.t.flags&&(match pv with|none=>false|some b=>qCE b r.p.t.text),qC9 r.p.t.flags,r.p.t.name⟩
def qqp(L:List Rw)(i:Nat):Option Str:=if i=0 then none else some (L.getD (i-1) default).p.t.text
def bsW(L:List Rw):List Wd:=(List.range L.length).map λi=>mkW (qqp L i) (L.getD i default)
theorem gH(L:List Rw):(bsW L).length=L.length:=by unfold bsW;simp
theorem qwo{L:List Rw}{i:Nat}(hi:i<L.length):(bsW L).getD i default=mkW (qqp L i) (L.getD i default):=by
 unfold bsW;rw[gdqA,List.getElem?_map,List.getElem?_range hi];rfl
theorem qb3{α:Type}{L M:List α}{a:α}{i:Nat}(hi:i<L.length):(L++M).getD i a=L.getD i a:=by
 rw[gdqA,gdqA,List.getElem?_append_left hi]
theorem qaN{α:Type}{L M:List α}{a:α}{i:Nat}:(L++M).getD (L.length+i) a=M.getD i a:=by
 rw[gdqA,gdqA,List.getElem?_append_right om,Nat.add_sub_cancel_left]
theorem qoB(L:List Rw)(r:Rw):bsW (L++ [r])=bsW L++ [mkW (qqp (L++ [r]) L.length) r]:=by
 unfold bsW;rw[lap,lco,lnl,Nat.zero_add,List.range_succ,List.map_append];congr 1
 ·refine List.map_congr_left λi hi=> ?_
  rw[List.mem_range]at hi;have e1:(L++ [r]).getD i default=L.getD i default:=qb3 hi;have e2:qqp (L++ [r]) i=qqp L i:=by
   unfold qqp;split
   ·rfl
   ·rw[qb3 om]
  rw[e1,e2]
 ·have e1:(L++ [r]).getD L.length default=r:=by
   have:=qaN (L:=L) (M:= [r]) (a:=default) (i:=0)
   rw[Nat.add_zero]at this;rw[this];rfl
  rw[List.map_cons,List.map_nil,e1]
theorem qmt(L:List Rw)(r:Rw):qqp (L++ [r]) L.length=if L.length=0 then none else some ((bsW L).getD (L.length-1) default).text:=by
 unfold qqp;split
 ·rfl
 ·rw[qb3 om,qwo om];rfl
def qbs(x:Co)(l:List Un)(d:List Dc)(k:Nat):Nat->Int
 |0=> -1
 |n+1=>if eE x l (d.getD n default)=k then (n:Int) else qbs x l d k n
def frN(l:List Un)(k:Nat):Nat:=(l.getD k default).frm.toNat
def toN(l:List Un)(k:Nat):Nat:=(l.getD k default).to.toNat
def jj(l:List Un)(k:Nat):Nat:=if k=0 then 0 else toN l (k-1)
def qqn(x:Co)(l:List Un)(k:Nat)(o:Dc):List Pc:=
 if o.kind=1 then spk x (zN x o.sig).toNat (frN l k) (toN l k-frN l k) else if o.kind=2 then (qed o.txt).map (λt=>⟨t,(l.getD k default).frm⟩) else []
def rwM(ps:List Pc)(u d:Int):List Rw:=ps.map λp=>⟨p,u,d⟩
def rwC(x:Co)(s f t:Nat):List Rw:=rwM (spk x s f (t-f)) (-1) (-1)
def rwU(x:Co)(l:List Un)(d:List Dc)(s k:Nat):List Rw:=
 if qbs x l d k d.length<0 then rwM (spk x s (frN l k) (toN l k-frN l k)) k (-1)
 else rwM (qqn x l k (d.getD (qbs x l d k d.length).toNat default)) k (qbs x l d k d.length)
def rwL(x:Co)(l:List Un)(d:List Dc)(s:Nat):Nat->List Rw
 |0=> []
 |k+1=>rwL x l d s k++(rwC x s (jj l k) (frN l k)++rwU x l d s k)
def rwA(x:Co)(l:List Un)(d:List Dc)(s:Nat):List Rw:=rwL x l d s l.length++rwC x s (jj l l.length) x.col.length
def esE(x:Co)(l:List Un)(d:List Dc)(s:Int):Int:=
 if vaE x l≠0 then vaE x l else if s<0∨(x.sig.length:Int)<=s then 2 else if qbt x l d≠0 then qbt x l d else if 1024<(rwA x l d s.toNat).length then 4 else 0
def esR(x:Co)(l:List Un)(d:List Dc)(s:Int):List Wd:=if esE x l d s=0 then bsW (rwA x l d s.toNat) else []
theorem qdw(x:Co)(l:List Un)(d:List Dc)(k:Nat): ∀n,-1<=qbs x l d k n∧qbs x l d k n<n:=by
 intro n
 induction n with
 |zero=>exact⟨Int.le_refl _,by unfold qbs;omega⟩
 |succ n ih=>
  unfold qbs;split
  ·omega
  ·omega
theorem qlC{x:Co}{l:List Un}{d:List Dc}{k:Nat}: ∀ {n j:Nat},qbs x l d k n=j->eE x l (d.getD j default)=k:=by
 intro n
 induction n with
 |zero=>intro j h;unfold qbs at h;omega
 |succ n ih=>
  intro j h;unfold qbs at h;split at h
  ·rename_i g;have e:n=j:=by omega
   rw[<-e];exact g
  ·exact ih h
theorem qcg(x:Co)(s f:Nat): ∀d,(spk x s f d).length<=d:=by
 intro d
 induction d with
 |zero=>exact nlr _
 |succ d ih=>
  unfold spk;rw[lap];split
  ·simp only[lco,lnl];omega
  ·simp only[lnl];omega
theorem qlG{x:Co}{s f:Nat}{p:Pc}: ∀ {d:Nat},p∈spk x s f d↔ ∃k,f<=k∧k<f+d∧pcB x s k=true∧p=pcT x s k:=by
 intro d
 induction d with
 |zero=>
  constructor
  ·intro h;cases h
  ·rintro⟨k,h1,h2,_⟩;omega
 |succ d ih=>
  unfold spk;rw[List.mem_append,ih];constructor
  ·rintro (⟨k,h1,h2,h3⟩|h)
   ·exact⟨k,h1,om,h3⟩
   ·split at h
    ·rename_i g;rw[List.mem_singleton]at h;exact⟨f+d,om,om,g,h⟩
    ·cases h
  ·rintro⟨k,h1,h2,h3,h4⟩
   by_cases e:k<f+d
   ·exact .inl ⟨k,h1,e,h3,h4⟩
   ·have e:k=f+d:=by omega
    subst e;rw[ipo h3];exact .inr (List.mem_singleton.2 h4)
theorem jy(ps:List Pc)(u d:Int):(rwM ps u d).length=ps.length:=by unfold rwM;rw[List.length_map]
theorem jF{ps:List Pc}{u d:Int}{r:Rw}:r∈rwM ps u d↔r.p∈ps∧r.u=u∧r.d=d:=by
 unfold rwM;rw[List.mem_map];constructor
 ·rintro⟨p,hp,rfl⟩;exact⟨hp,rfl,rfl⟩
 ·rintro⟨h1,h2,h3⟩;exact⟨r.p,h1,by cases r;cases h2;cases h3;rfl⟩
theorem qaE{x:Co}{l:List Un}(h:qci x l=true){k:Nat}(hk:k<l.length):(l.getD k default).frm=frN l k∧(l.getD k default).to=toN l k∧frN l k<toN l k∧toN l k<=x.col.length∧(l.getD k default).rds=qeb x (frN l k) (toN l k):=by
 have ho:=qf7 h;have hm:l.getD k default∈l:=by
  rw[gdqA,zH hk];exact List.getElem_mem hk
 obtain⟨h1,h2,h3,h4⟩:=ho.rg _ hm;unfold frN toN;refine⟨om,om,om,om,h4⟩
theorem qC6{x:Co}{l:List Un}(h:qci x l=true){j k:Nat}(hj:j<k)(hk:k<l.length):toN l j<frN l k:=by
 have ho:=qf7 h;have hp:=List.pairwise_iff_getElem.1 ho.pw j k om hk hj;have e: ∀i (hi:i<l.length),l.getD i default=l[i]:=λi hi=>by rw[gdqA,zH hi];rfl
 obtain⟨a1,a2,_⟩:=qaE h (show j<l.length by omega);obtain⟨b1,b2,_⟩:=qaE h hk;rw[e j om]at a1 a2;rw[e k hk]at b1 b2;omega
theorem qgM{x:Co}{l:List Un}(h:qci x l=true){k:Nat}(hk:k<l.length):jj l k<=frN l k:=by
 unfold jj;split
 ·exact nzl _
 ·exact Nat.le_of_lt (qC6 h om hk)
theorem qaV{x:Co}{l:List Un}(h:qci x l=true){k:Nat}(hk:k<=l.length):jj l k<=x.col.length:=by
 unfold jj;split
 ·exact nzl _
 ·exact (qaE h (show k-1<l.length by omega)).2.2.2.1
theorem qgN(l:List Un)(k:Nat):jj l (k+1)=toN l k:=by unfold jj;rw[ine om,Nat.add_sub_cancel]
end RC
end
section
namespace Go.Proofs
open Go.Shelf
end Go.Proofs
end
section
open Go Go.Proofs Go.Sort AF HY LN
namespace RC
end RC
end
section
open Go Go.Proofs AF HY LN
namespace RC
theorem qdj{a b:En}:qbZ a b=false↔a.to<=b.frm∧ ¬(a.frm=b.frm∧a.to=b.to):=by
 unfold qbZ;rw[Bool.or_eq_false_iff,decide_eq_false_iff_not,Bool.and_eq_false_iff,decide_eq_false_iff_not,decide_eq_false_iff_not];omega
theorem qCW{L:List En}(hs:L.Pairwise λa b=>qgk b a=false)(hr: ∀e∈L,e.frm<=e.to)(hc:gL L=false):L.Pairwise λa b=>qbZ a b=false:=by
 induction L with
 |nil=>exact List.Pairwise.nil
 |cons a r ih=>
  have h0:=qnj hs hc;obtain⟨h1,h2⟩:=List.pairwise_cons.1 hs;have h3:=ih h2 (λe he=>hr e (List.mem_cons_of_mem _ he)) (qcI hc);refine List.pairwise_cons.2 ⟨?_,h3⟩;cases r with
  |nil=>intro z hz;cases hz
  |cons b r=>
   have hab:qbZ a b=false:=by
    rw[gL,Bool.or_eq_false_iff]at hc;exact hc.1
   intro z hz;have g0:=U7.1 ((List.pairwise_cons.1 h0).1 z hz);rcases List.mem_cons.1 hz with rfl|hz'
   ·exact hab
   ·have g1:=qdj.1 ((List.pairwise_cons.1 h3).1 z hz');have g2:=qdj.1 hab;have g3:=hr b (by simp);rw[qdj];omega
theorem qgp: ∀ {L:List En},(L.Pairwise λa b=>qbZ a b=false)->gL L=false
 | [],_=>rfl
 | [_],_=>rfl
 |a::b::r,h=>by
  obtain⟨h1,h2⟩:=List.pairwise_cons.1 h;rw[gL,h1 b (by simp),qgp h2];rfl
theorem qh5(names:List Str)(gs:List Gr)(l:List En)(src:Int)(p:En->Bool):ofE names gs (l.filter p) src=(ofE names gs l src).filter p:=by
 have h:=qes qgm qgl p l [] List.Pairwise.nil;unfold ofE qv6;rw[List.filter_nil]at h;rw[<-h,List.filter_reverse,List.filter_reverse,List.filter_reverse,List.filter_filter,List.filter_filter];congr 2;funext x;exact Bool.and_comm _ _
theorem qCS{names:List Str}{gs:List Gr}{t:List Str}{l:List En}(h:qvT names gs t l){s:Nat}(hs:s<names.length):(ofE names gs l (s:Int)).Pairwise λa b=>qbZ a b=false:=by
 refine qCW (qh6 names gs l s) (λe he=> ?_) (UP h.cl hs);have h1:e∈qv6 l:=(List.mem_filter.1 he).1;have h2:=qkw.1 (h.ck e ((qe3 l).subset h1));exact h2.rng.2.1
theorem qvT.filter{names:List Str}{gs:List Gr}{t:List Str}{l:List En}(h:qvT names gs t l)(p:En->Bool):qvT names gs t (l.filter p):=
 ⟨h.sg,Nat.le_trans (List.length_filter_le _ _) h.n,λe he=>h.ck e ((List.mem_filter.1 he).1),qu.2 λs hs=>by
  rw[qh5]
  exact qgp (List.Pairwise.filter _ (qCS h hs))⟩
def qEr(names:List Str)(gs:List Gr)(p:Un)(v:Va):Bool:=decide (qhJ names gs v.sigla=0)&&jK (λj=>decide ((p.rds.getD j default).words=v.words)&&decide ((p.rds.getD j default).src=qco names gs v.sigla)) p.rds.length
def qD1(p:Un)(w:List Str):Nat->List Int
 |0=> []
 |j+1=>if (p.rds.getD j default).words=w then (p.rds.getD j default).src else qD1 p w j
def okB(names:List Str)(gs:List Gr)(w:List Str)(p:Un)(e:En):Bool:=
 if jK (λj=> !qEr names gs p (e.vars.getD j default)) e.vars.length=true then false else if e.pos=false then decide (e.sup.length=0) else
  decide (qhJ names gs e.sup=0)&&decide (qco names gs e.sup=qD1 p (qoi w e.frm.toNat e.to.toNat) p.rds.length)
structure qi3 (x:Co) (l:List Un) (d:List Dc) (s:Nat):Prop where
 ca:coE x=0
 us:qci x l=true
 cv:cvA x l=true
 sl:s<x.sig.length
 dl:d.length<=256
 pl: ∀j,j<d.length->qdF x l (d.getD j default)=0
 ln:(rwA x l d s).length<=1024
theorem qfa{x:Co}{l:List Un}(h:vaE x l=0):coE x=0∧qci x l=true∧cvA x l=true:=by
 unfold vaE at h;split at h
 ·cases h
 rename_i h1;split at h
 ·cases h
 rename_i h2;have h2:rgB x l=true:=by simpa using h2
 unfold rgB at h2;rw[Bool.and_eq_true]at h2;exact⟨Classical.not_not.1 h1,h2.1,h2.2⟩
theorem qi3.co{x:Co}{l:List Un}{d:List Dc}{s:Nat}(h:qi3 x l d s):CoOk x:=qad h.ca
theorem qsc{x:Co}(h:CoOk x){s k:Nat}(hs:s<x.sig.length)(hk:k<x.col.length)(hb:pcB x s k=true):tkE (pcT x s k).t=0∧((x.col.getD k []).getD s 0).toNat<(x.tok.getD s []).length:=by
 unfold pcB at hb;have hb:=of_decide_eq_true hb;rcases h.ce k hk s hs with e|⟨e1,e2⟩
 ·omega
 ·exact⟨h.te s (by rw[h.tn];exact hs) _ om,om⟩
theorem qvn{t:Tk}(h:tkE t=0):t.text≠ []∧t.text.length<=64:=by
 have h1:=qsk h;unfold txB at h1;split at h1
 ·rw[Bool.and_eq_true]at h1;have h2:=h1.1;unfold qdo at h2;rw[List.any_eq_true]at h2;obtain⟨k,hk,e⟩:=h2;rw[of_decide_eq_true e];refine⟨List.cons_ne_nil _ _,?_⟩;have h3:((List.range 64).all λk=>decide ((91::(Lib.itoa ((k+1:Nat):Int)++ [93]):Str).length<=64))=true:=by decide+kernel
  exact of_decide_eq_true (List.all_eq_true.1 h3 k hk)
 ·split at h1
  ·rw[Bool.and_eq_true]at h1;have h2:=h1.1;unfold qv0 at h2;rw[Bool.and_eq_true,decide_eq_true_iff]at h2;refine⟨λe=> ?_,om⟩;rw[e]at h2;cases h2.1
  ·rw[Bool.and_eq_true]at h1;have h2:=h1.1;rw[qaj]at h2;simp only[Bool.and_eq_true,decide_eq_true_eq]at h2;refine⟨λe=> ?_,om⟩;rw[e]at h2;simp at h2
theorem qud{x:Co}{l:List Un}{d:List Dc}{s:Nat}(h:qi3 x l d s){k:Nat}(hl: ¬qbs x l d k d.length<0):
  (qbs x l d k d.length).toNat<d.length∧qdF x l (d.getD (qbs x l d k d.length).toNat default)=0∧eE x l (d.getD (qbs x l d k d.length).toNat default)=k:=by
 have h1:=qdw x l d k d.length;refine⟨om,h.pl _ om,qlC (n:=d.length) om⟩
def rwT(r:Rw):Str:=r.p.t.text
theorem qfP{x:Co}{l:List Un}{s:Nat}(h:qci x l=true): ∀k,k<=l.length->(rwL x l [] s k).map (λr=>r.p)=spk x s 0 (jj l k):=by
 intro k
 induction k with
 |zero=>intro _;rfl
 |succ k ih=>
  intro hk;show (rwL x l [] s k++(rwC x s (jj l k) (frN l k)++rwU x l [] s k)).map _=_;have hp:=qgM h (show k<l.length by omega);obtain⟨_,_,a3,a4,_⟩:=qaE h (show k<l.length by omega);rw[List.map_append,List.map_append,ih om,qgN];have e1:(rwC x s (jj l k) (frN l k)).map (λr=>r.p)=spk x s (jj l k) (frN l k-jj l k):=by unfold rwC;exact rwM_p _ _ _
  have e2:(rwU x l [] s k).map (λr=>r.p)=spk x s (frN l k) (toN l k-frN l k):=by
   unfold rwU;rw[ipo (by show (-1:Int)<0;omega)];exact rwM_p _ _ _
  rw[e1,e2];have g1:=spk_add x s 0 (jj l k) (frN l k-jj l k);have g2:=spk_add x s 0 (frN l k) (toN l k-frN l k);rw[Nat.zero_add]at g1 g2;rw[show jj l k+(frN l k-jj l k)=frN l k by omega]at g1;rw[show frN l k+(toN l k-frN l k)=toN l k by omega]at g2;rw[<-List.append_assoc,<-g1,<-g2]
where
 rwM_p (ps:List Pc) (u d:Int):(rwM ps u d).map (λr=>r.p)=ps:=by unfold rwM;rw[List.map_map];exact List.map_id _
 spk_add (x:Co) (s f d:Nat): ∀e,spk x s f (d+e)=spk x s f d++spk x s (f+d) e:=by
  intro e
  induction e with
  |zero=>rw[Nat.add_zero];show _=_++ [];rw[lan]
  |succ e ih=>
   show spk x s f (d+e)++(if pcB x s (f+(d+e))=true then [pcT x s (f+(d+e))] else [])=spk x s f d++(spk x s (f+d) e++if pcB x s (f+d+e)=true then [pcT x s (f+d+e)] else []);rw[ih,List.append_assoc,Nat.add_assoc]
theorem qu9{x:Co}{l:List Un}{s:Nat}(h:qci x l=true):(rwA x l [] s).map (λr=>r.p)=spk x s 0 x.col.length:=by
 unfold rwA;have hp:=qaV h (nlr l.length);rw[List.map_append,qfP h _ (nlr _)];have e1:(rwC x s (jj l l.length) x.col.length).map (λr=>r.p)=spk x s (jj l l.length) (x.col.length-jj l l.length):=by unfold rwC;exact qfP.rwM_p _ _ _
 have g1:=qfP.spk_add x s 0 (jj l l.length) (x.col.length-jj l l.length);rw[Nat.zero_add,show jj l l.length+(x.col.length-jj l l.length)=x.col.length by omega]at g1;rw[e1,<-g1]
theorem qvv(L:List Rw):qhe (bsW L)=L.map rwT:=by
 unfold qhe bsW;rw[List.map_map];refine List.ext_getElem (by simp) λi h1 h2=> ?_
 simp only[List.length_map,List.length_range]at h1;simp[mkW,rwT,gdqA,h1]
def unF(x:Co)(r:Nat×Nat):Un:=⟨(r.1:Int),(r.2:Int),qeb x r.1 r.2⟩
def rnL(x:Co):List (Nat×Nat):=qc4 (cmB x) x.col.length
def qbw(x:Co):List Un:=(rnL x).map (unF x)
theorem qqK(p:Nat->Bool)(n:Nat): ∀d f,(kB p n d f).Pairwise λa b=>a.2<b.1:=by
 intro d
 induction d with
 |zero=>intro f;exact List.Pairwise.nil
 |succ d ih=>
  intro f;unfold kB;split
  ·exact List.Pairwise.nil
  ·rw[List.pairwise_append];refine⟨?_,ih _,λa ha b hb=> ?_⟩
   ·split
    ·exact List.pairwise_singleton _ _
    ·exact List.Pairwise.nil
   ·split at ha
    ·rw[List.mem_singleton]at ha;subst ha
     have:=((qdK p n d (nxt p (n-f) f+1)).1 b hb).1
     show nxt p (n-f) f<b.1;omega
    ·cases ha
theorem qbP(x:Co):(qbw x).length=(rnL x).length:=by unfold qbw;rw[List.length_map]
theorem qcj{x:Co}{k:Nat}(hk:k<(rnL x).length):(qbw x).getD k default=unF x (rnL x)[k]:=by
 unfold qbw;rw[gdqA,List.getElem?_map,zH hk];rfl
theorem qmI{x:Co}{k:Nat}(hk:k<(rnL x).length):(rnL x)[k].1<(rnL x)[k].2∧(rnL x)[k].2<=x.col.length∧ ∀c,(rnL x)[k].1<=c->c<(rnL x)[k].2->cmB x c=false:=qmP (List.getElem_mem hk)
theorem UG(x:Co):qci x (qbw x)=true:=by
 unfold qci;rw[Bool.not_eq_true',qu];intro k hk;rw[qbP]at hk;rw[Bool.not_eq_false'];obtain⟨h1,h2,_⟩:=qmI hk;refine qnC.2 ?_;rw[qcj hk];have hb:beH (qbw x) k<((rnL x)[k].1:Int):=by
  unfold beH;split
  ·omega
  ·rename_i h0;rw[qcj (show k-1<(rnL x).length by omega)]
   have:=List.pairwise_iff_getElem.1 (qqK (cmB x) x.col.length (x.col.length+1) 0) (k-1) k (by show _<(rnL x).length;omega) hk om
   show ((rnL x)[k-1].2:Int)<_;have this:(rnL x)[k-1].2<(rnL x)[k].1:=this;omega
 refine⟨hb,?_,?_,?_,?_⟩
 ·show (0:Int)<=((rnL x)[k].1:Nat);omega
 ·show ((rnL x)[k].1:Int)<((rnL x)[k].2:Nat);omega
 ·show ((rnL x)[k].2:Int)<=_;omega
 ·show qeb x (rnL x)[k].1 (rnL x)[k].2=qeb x (((rnL x)[k].1:Nat):Int).toNat (((rnL x)[k].2:Nat):Int).toNat;rw[itn,itn]
theorem qnF(x:Co):cvA x (qbw x)=true:=by
 unfold cvA;rw[Bool.not_eq_true',qu];intro c hc;cases h:cmB x c with
 |true=>simp
 |false=>
  obtain⟨r,hr,h1,h2⟩:=qgZ hc h;obtain⟨k,hk,rfl⟩:=List.getElem_of_mem hr
  have:cvB (qbw x) c=true:=by
   unfold cvB;refine qZ.2 ⟨k,by rw[qbP];exact hk,?_⟩;rw[qcj hk,Bool.and_eq_true,decide_eq_true_iff,decide_eq_true_iff];exact⟨by show (((rnL x)[k].1:Nat):Int)<=_;exact Int.ofNat_le.2 h1,by show _<(((rnL x)[k].2:Nat):Int);exact Int.ofNat_lt.2 h2⟩
  rw[this];rfl
theorem qvx{x:Co}(h:coE x=0):vaE x (qbw x)=0:=by
 unfold vaE;rw[h,ine (by simp),ine];unfold rgB;rw[UG,qnF];simp
theorem qi3.mk0{x:Co}{l:List Un}{s:Nat}(h:vaE x l=0)(hs:s<x.sig.length)(hl:(rwA x l [] s).length<=1024):qi3 x l [] s:=by
 obtain⟨h1,h2,h3⟩:=qfa h;exact⟨h1,h2,h3,hs,by simp,λj hj=>absurd hj (nnz j),hl⟩
theorem qfO{x:Co}{l:List Un}{s:Nat}(h:qci x l=true):(rwA x l [] s).length<=x.col.length:=by
 have:=congrArg List.length (qu9 (s:=s) h)
 rw[List.length_map]at this;rw[this];exact qcg x s 0 _
theorem qpF{d:List Dc}{j:Nat}(ht: ∀o∈d,o.txt.length<=1000):(d.getD j default).txt.length<=1000:=by
 by_cases hj:j<d.length
 ·exact ht _ (jk hj)
 ·rw[gdqA,List.getElem?_eq_none om];exact nzl _
theorem qva{x:Co}{l:List Un}{d:List Dc}{s k:Nat}(ht: ∀o∈d,o.txt.length<=1000):(rwU x l d s k).length<=(toN l k-frN l k)+1000:=by
 unfold rwU;split
 ·rw[jy]
  have:=qcg x s (frN l k) (toN l k-frN l k)
  omega
 ·rw[jy];unfold qqn;split
  ·have:=qcg x (zN x (d.getD (qbs x l d k d.length).toNat default).sig).toNat (frN l k) (toN l k-frN l k)
   omega
  ·split
   ·rw[List.length_map];have h1:=qdZ (d.getD (qbs x l d k d.length).toNat default).txt;have h2:=qpF (j:=(qbs x l d k d.length).toNat) ht;omega
   ·exact nzl _
theorem qmT(x:Co)(s f t:Nat):(rwC x s f t).length<=t-f:=by
 unfold rwC;rw[jy];exact qcg x s f _
theorem qdL{x:Co}{l:List Un}{d:List Dc}{s:Nat}(h:qci x l=true)(ht: ∀o∈d,o.txt.length<=1000): ∀k,k<=l.length->(rwL x l d s k).length<=jj l k+1000*k∧k<=jj l k:=by
 intro k
 induction k with
 |zero=>intro _;exact⟨nzl _,nzl _⟩
 |succ k ih=>
  intro hk;obtain⟨i1,i2⟩:=ih om;have hp:=qgM h (show k<l.length by omega);obtain⟨_,_,a3,a4,_⟩:=qaE h (show k<l.length by omega);have u:=qva (x:=x) (l:=l) (s:=s) (k:=k) ht;have c:=qmT x s (jj l k) (frN l k);rw[qgN];refine⟨?_,om⟩;show (rwL x l d s k++(rwC x s (jj l k) (frN l k)++rwU x l d s k)).length<=_;rw[lap,lap];omega
theorem qu7{x:Co}{l:List Un}{d:List Dc}{s:Nat}(h:qci x l=true)(ht: ∀o∈d,o.txt.length<=1000):(rwA x l d s).length<=1001*x.col.length:=by
 obtain⟨h1,h2⟩:=qdL (d:=d) (s:=s) h ht l.length (nlr _);have hp:=qaV h (nlr l.length);have c:=qmT x s (jj l l.length) x.col.length;unfold rwA;rw[lap];omega
theorem qu8{x:Co}{l:List Un}{d:List Dc}{s:Nat}(hc:x.col.length<=10000)(ht: ∀o∈d,o.txt.length<=1000)(h:vaE x l=0):(rwA x l d s).length<=1000000000:=by
 have:=qu7 (d:=d) (s:=s) (qfa h).2.1 ht
 omega
theorem qCO(s:Str)(h:we)(hs:s.length<=1000000000):ACalls Tryz.prog 260 [.str s] h (.bool (qum s)) h:=by
 have c1:=λh=>t44 s h hs
 unfold qum
 by_cases g:s= []
 ·subst g;rw[dqt rfl,Bool.true_or];refine acO qrP ?_;simp (disch:=omega) only[qsV,go_sem]
  repeat' first|(refine ql ( .bool false) ?_;simp (disch:=omega) only[go_sem])|exact v8|fail
 ·have k1:(s= [])=False:=eqf g;rw[dqf g,Bool.false_or];refine acO qrP ?_;simp (disch:=omega) only[qsV,k1,go_sem]
  repeat' first|(refine cG (λe=>c1 _) flk ?_;simp (disch:=omega) only[go_sem])|exact v8|fail
theorem qEJ(s:Str)(h:we)(hs:s.length<=1000000000):ACalls Tryz.prog 257 [.str s] h (.bool (qv0 s)) h:=by
 unfold qv0
 by_cases g:s.length=1
 ·have k1:((s.length:Int)=1)=True:=wh;have k2:((0:Int)<s.length)=True:=wh;have e:(s[0]?).getD 0=ch s 0:=by simp[ch,gdqA]
  have c5:=λh=>qa7 (ch s 0) h
  rw[dqt g,Bool.true_and];obtain⟨k,hk⟩:=wc (kind (ch s 0))
  rw[<-hk]at c5 ⊢
  by_cases g1:k=5
  ·have q1:(k=5)=True:=eqt g1;rw[dqt g1,Bool.true_or];refine acO qk8 ?_;simp (disch:=omega) only[qoI,k1,go_sem]
   repeat' first|(refine cA (c5 _) flk ?_;simp (disch:=omega) only[e,q1,go_sem])|exact v8|with_reducible apply aiA|exact clz|fail
  ·have q1:(k=5)=False:=eqf g1;rw[dqf g1,Bool.false_or];refine acO qk8 ?_;simp (disch:=omega) only[qoI,k1,go_sem]
   repeat' first|(refine cA (c5 _) flk ?_;simp (disch:=omega) only[e,q1,go_sem])|exact v8|with_reducible apply aiA|exact clz|fail
 ·have k1:((s.length:Int)=1)=False:=wi;rw[dqf g,Bool.false_and];refine acO qk8 ?_;simp (disch:=omega) only[qoI,k1,go_sem]
  repeat' first|exact v8|fail
theorem qBr(c:UInt8)(h:we):ACalls Tryz.prog 357 [.int .u8 (c.toNat:Int)] h (.bool (decide (kind c=1)||decide (kind c=3))) h:=by
 have c5:=λh=>qa7 c h
 obtain⟨k,hk⟩:=wc (kind c)
 rw[<-hk]at c5 ⊢
 by_cases g1:k=1
 ·have q1:(k=1)=True:=eqt g1;rw[dqt g1,Bool.true_or];refine acO qrV ?_;simp (disch:=omega) only[qs1,go_sem]
  repeat' first|(refine cA (c5 _) flk ?_;simp (disch:=omega) only[q1,go_sem])|exact v8|fail
 ·have q1:(k=1)=False:=eqf g1;rw[dqf g1,Bool.false_or];refine acO qrV ?_;simp (disch:=omega) only[qs1,go_sem]
  repeat' first|(refine cA (c5 _) flk ?_;simp (disch:=omega) only[q1,go_sem])|exact v8|fail
theorem qBv(c:UInt8)(h:we):ACalls Tryz.prog 309 [.int .u8 (c.toNat:Int)] h (.bool (UX c)) h:=by
 have c5:=λh=>qa7 c h
 have c6:=λh=>qBr c h
 unfold UX;rw[<-Bool.or_assoc];obtain⟨k,hk⟩:=wc (kind c)
 rw[<-hk]at c5 c6 ⊢;obtain⟨b,hb⟩:=wc ((decide (k=1)||decide (k=3)))
 rw[<-hb]at c6 ⊢;cases b with
 |true=>
  rw[Bool.true_or];refine acO qk9 ?_;simp (disch:=omega) only[qoJ,go_sem]
  repeat' first|((first|refine cA (c5 _) ?_ ?_|refine cA (c6 _) ?_ ?_);exact flk;simp (disch:=omega) only[go_sem])|exact v8|fail
 |false=>
  rw[Bool.false_or]
  by_cases g1:k=2
  ·have q1:(k=2)=True:=eqt g1;rw[dqt g1,Bool.true_or];refine acO qk9 ?_;simp (disch:=omega) only[qoJ,go_sem]
   repeat' first|((first|refine cA (c5 _) ?_ ?_|refine cA (c6 _) ?_ ?_);exact flk;simp (disch:=omega) only[q1,go_sem])|exact v8|fail
  ·have q1:(k=2)=False:=eqf g1;rw[dqf g1,Bool.false_or];refine acO qk9 ?_;simp (disch:=omega) only[qoJ,go_sem]
   repeat' first|((first|refine cA (c5 _) ?_ ?_|refine cA (c6 _) ?_ ?_);exact flk;simp (disch:=omega) only[q1,go_sem])|exact v8|fail
theorem qCP(s:Str)(h:we)(hs:s.length<=1000000000):ACalls Tryz.prog 259 [.str s] h (.bool (qzM s)) h:=by
 obtain⟨R,hR⟩:=wc (qzM s)
 rw[<-hR];unfold qzM at hR;refine acO qyA ?_;simp (disch:=omega) only[qwZ,go_sem];refine qt (T:=λi:Nat=>zg 22 [(0,.str s),(5,.int .i64 s.length),(6,.int .i64 i)]) (H:=λ_=>h) (inv:=λi=>i<=s.length∧ ∀j,j<i->UX (ch s j)=true) (m:=λi=>s.length-i) 0 ⟨nzl _,λj hj=>by omega⟩ (Wk.temps ?_) ?_
 ·(simp only[go_sem,qh,qf,qb,qg];try exact wa)
 rintro i ⟨i1,i2⟩ K hK
 by_cases hi:i<s.length
 ·have k1:((i:Int)<s.length)=True:=wh;have e:(s[i]?).getD 0=ch s i:=by simp[ch,gdqA]
  have c1:=λh=>qBv (ch s i) h
  cases g:UX (ch s i)with
  |false=>
   rw[g]at c1;have hV:R=false:=by
    have:((List.range s.length).all λi=>UX (ch s i))=false:=by
     rw[List.all_eq_false];exact⟨i,List.mem_range.2 hi,by simp[g]⟩
    rw[hR,this,Bool.and_false,Bool.and_false]
   rw[hV];simp (disch:=omega) only[k1,e,go_sem]
   repeat' first|(refine cA (c1 _) flk ?_;simp (disch:=omega) only[go_sem])|exact v8|with_reducible apply aiA|exact clz|fail
  |true=>
   rw[g]at c1;simp (disch:=omega) only[k1,e,go_sem]
   repeat' first|(refine cA (c1 _) flk ?_;simp (disch:=omega) only[go_sem])|with_reducible apply aiA|exact clz|fail
   refine hK _ _ (i+1) ⟨hi,λj hj=> ?_⟩ om (Wk.temps ?_)
   ·by_cases e':j=i
    ·subst e';exact g
    ·exact i2 j om
   ·(simp only[go_sem,qh,qf,qb,qg];try exact wa)
 ·have k1:((i:Int)<s.length)=False:=wi;have hA:((List.range s.length).all λi=>UX (ch s i))=true:=by
   rw[List.all_eq_true];intro j hj;exact i2 j (by have:=List.mem_range.1 hj;omega)
  rw[hA,Bool.and_true]at hR
  by_cases g:s= []
  ·have q1:(s= [])=True:=eqt g;rw[hR,dqf (λh=>h g),Bool.false_and];simp (disch:=omega) only[k1,q1,go_sem]
   repeat' first|exact v8|fail
  ·have q1:(s= [])=False:=eqf g;have q2:decide ((s.length:Int)<=64)=decide (s.length<=64):=decide_eq_decide.2 om;rw[hR,dqt (show s≠ []from g),Bool.true_and];simp (disch:=omega) only[k1,q1,q2,go_sem]
   repeat' first|exact v8|fail
theorem qub{k:Nat}:1<=(Lib.itoa (k:Int)).length:=by
 rw[Lib.itoa_nonneg]
 by_cases g:k<10
 ·rw[Lib.decDigits,dif_pos g];simp
 ·rw[Lib.decDigits,dif_neg g];simp
theorem qzp{s:Str}(h:qdo s=true):3<=s.length∧((s[0]?).getD 0).toNat=91∧((s[s.length-1]?).getD 0).toNat=93∧ ∃v:Int,Lib.atoiAll ((s.drop 1).take (s.length-1-1))= .ok v∧1<=v∧v<=64∧s=91::(Lib.itoa v++ [93]):=by
 unfold qdo at h;rw[List.any_eq_true]at h;obtain⟨k,hk,e⟩:=h;have hk':k<64:=by simpa using hk
 have e:=of_decide_eq_true e;have hl:=qub (k:=k+1);obtain⟨t,ht⟩:=wc (Lib.itoa ((k+1:Nat):Int))
 rw[<-ht]at e hl;have ha:Lib.atoiAll t= .ok ((k+1:Nat):Int):=by rw[ht];exact gz om om
 have e1:s.length=t.length+2:=by rw[e];simp
 refine⟨om,by rw[e];rfl,?_,((k+1:Nat):Int),?_,om,om,by rw[<-ht];exact e⟩
 ·rw[e1,e,show t.length+2-1=t.length+1 by omega,List.getElem?_cons_succ,List.getElem?_append_right (nlr _),Nat.sub_self];rfl
 ·rw[<-ha,e1,e];congr 1;simp
theorem qzr{s:Str}{v:Int}(h1:1<=v)(h2:v<=64)(e:s=91::(Lib.itoa v++ [93])):qdo s=true:=by
 unfold qdo;rw[List.any_eq_true];refine⟨v.toNat-1,by simp;omega,dqt ?_⟩;rw[show ((v.toNat-1+1:Nat):Int)=v by omega];exact e
theorem qEu(s:Str)(h:we)(hs:s.length<=1000000000)(hp:ku SG h):ACalls Tryz.prog 256 [.str s] h (.bool (qdo s)) h:=by
 have hF:= @qzp s;have hM:= @qzr s;obtain⟨R,hR⟩:=wc (qdo s)
 rw[<-hR]at hF hM ⊢;have hV: ¬(R=true)->R=false:=by cases R<;>simp
 by_cases g0:s.length<3
 ·have k0:((s.length:Int)<3)=True:=wh;rw[hV (λc=>by have:=(hF c).1;omega)];refine acO qbb ?_;simp (disch:=omega) only[qdg,k0,go_sem]
  repeat' first|exact v8|fail
 have k0:((s.length:Int)<3)=False:=wi;have k1:((0:Int)<s.length)=True:=wh;have k2:((s.length:Int)-1).toNat=s.length-1:=by omega
 have k3:(0<=(s.length:Int)-1)=True:=wh;have k4:((s.length:Int)-1<=s.length)=True:=wh;have k5:((s.length:Int)-1<s.length)=True:=wh;have k6:((1:Int)<=(s.length:Int)-1)=True:=wh;obtain⟨m,hm⟩:=wc ((s.drop 1).take (s.length-1-1))
 have hml:m.length<=s.length:=by rw[hm];simp;omega
 have em:=hm.symm;rw[em]at hF;obtain⟨a,ha⟩:=wc ((s[0]?).getD 0)
 obtain⟨b,hb⟩:=wc ((s[s.length-1]?).getD 0)
 have ea:=ha.symm;have eb:=hb.symm;rw[ea,eb]at hF
 by_cases g1:a.toNat=91
 case neg=>
  have q1:((a.toNat:Int)=91)=False:=wi;rw[hV (λc=>g1 (hF c).2.1)];refine acO qbb ?_;simp (disch:=omega) only[qdg,k0,k1,k2,k3,k4,k5,k6,em,ea,eb,q1,Int.toNat_zero,Int.toNat_one,go_sem]
  repeat' first|exact v8|with_reducible apply aiA|exact clz|fail
 have q1:((a.toNat:Int)=91)=True:=wh
 by_cases g2:b.toNat=93
 case neg=>
  have q2:((b.toNat:Int)=93)=False:=wi;rw[hV (λc=>g2 (hF c).2.2.1)];refine acO qbb ?_;simp (disch:=omega) only[qdg,k0,k1,k2,k3,k4,k5,k6,em,ea,eb,q1,q2,Int.toNat_zero,Int.toNat_one,go_sem]
  repeat' first|exact v8|with_reducible apply aiA|exact clz|fail
 have q2:((b.toNat:Int)=93)=True:=wh;have c180:=t50 m h (SG.err hp) om;unfold qot at c180;cases hA:Lib.atoiAll m
 case ok v=>
  rw[hA]at c180 hF;simp only at c180;obtain⟨r1,r2⟩:=qgi hA;have c181:=t48 v h (SG.pow hp) r1 r2;obtain⟨t,ht⟩:=wc (Lib.itoa v)
  rw[<-ht]at c181
  by_cases g3:1<=v
  case neg=>
   have q3:(1<=v)=False:=eqf g3;rw[hV (λc=>by obtain⟨_,_,_,w,e,w1,_⟩:=hF c;cases e;exact g3 w1)];refine acO qbb ?_;simp (disch:=omega) only[qdg,k0,k1,k2,k3,k4,k5,k6,em,ea,eb,q1,q2,Int.toNat_zero,Int.toNat_one,go_sem]
   repeat' first|(refine ql ( .str []) ?_;simp (disch:=omega) only[go_sem])|(refine cA (c180) flk ?_;simp (disch:=omega) only[q3,go_sem])|exact v8|(with_reducible first|intro _|apply aiA)|exact clz|fail
  have q3:(1<=v)=True:=eqt g3
  by_cases g4:v<=64
  case neg=>
   have q4:(v<=64)=False:=eqf g4;rw[hV (λc=>by obtain⟨_,_,_,w,e,_,w2,_⟩:=hF c;cases e;exact g4 w2)];refine acO qbb ?_;simp (disch:=omega) only[qdg,k0,k1,k2,k3,k4,k5,k6,em,ea,eb,q1,q2,Int.toNat_zero,Int.toNat_one,go_sem]
   repeat' first|(refine ql ( .str []) ?_;simp (disch:=omega) only[go_sem])|(refine cA (c180) flk ?_;simp (disch:=omega) only[q3,q4,go_sem])|exact v8|with_reducible apply aiA|exact clz|fail
  have q4:(v<=64)=True:=eqt g4
  by_cases g5:s=91::(t++ [93])
  ·have q5:(s=91::(t++ [93]))=True:=eqt g5;have htl:t.length<=9:=by
    obtain⟨n,rfl⟩: ∃n:Nat,v=n:=⟨v.toNat,om⟩
    rw[ht];exact qdv om
   rw[hM g3 g4 (by rw[<-ht];exact g5)];refine acO qbb ?_;simp (disch:=omega) only[qdg,k0,k1,k2,k3,k4,k5,k6,em,ea,eb,q1,q2,Int.toNat_zero,Int.toNat_one,go_sem]
   repeat' first|((first|refine cA (c180) ?_ ?_|refine cG (λe=>c181) ?_ ?_);exact flk;simp (disch:=omega) only[q3,q4,q5,go_sem])|exact v8|with_reducible apply aiA|exact clz|fail
  ·have q5:(s=91::(t++ [93]))=False:=eqf g5;have htl:t.length<=9:=by
    obtain⟨n,rfl⟩: ∃n:Nat,v=n:=⟨v.toNat,om⟩
    rw[ht];exact qdv om
   rw[hV (λc=>by obtain⟨_,_,_,w,e,_,_,w3⟩:=hF c;cases e;exact g5 (by rw[ht];exact w3))];refine acO qbb ?_;simp (disch:=omega) only[qdg,k0,k1,k2,k3,k4,k5,k6,em,ea,eb,q1,q2,Int.toNat_zero,Int.toNat_one,go_sem]
   repeat' first|((first|refine cA (c180) ?_ ?_|refine cG (λe=>c181) ?_ ?_);exact flk;simp (disch:=omega) only[q3,q4,q5,go_sem])|exact v8|with_reducible apply aiA|exact clz|fail
 all_goals
  rw[hA]at c180 hF;simp only at c180;rw[hV (λc=>by obtain⟨_,_,_,w,e,_⟩:=hF c;cases e)];refine acO qbb ?_;simp (disch:=omega) only[qdg,k0,k1,k2,k3,k4,k5,k6,em,ea,eb,q1,q2,Int.toNat_zero,Int.toNat_one,go_sem]
  repeat' first|(refine ql ( .str []) ?_;simp (disch:=omega) only[go_sem])|(refine cA (c180) flk ?_;simp (disch:=omega) only[go_sem])|exact v8|(with_reducible first|intro _|apply aiA)|exact clz|fail
theorem qBA: ∀f:Nat,f<32->qob .i64 (f:Int) 2=if f.testBit 1 then 2 else 0:=by decide+kernel
theorem qBC: ∀f:Nat,f<32->qob .i64 (f:Int) 8=if f.testBit 3 then 8 else 0:=by decide+kernel
theorem qwc: ∀f:Nat,f<32->qob .i64 (f:Int) 10=(if f.testBit 1 then 2 else 0)+if f.testBit 3 then 8 else 0:=by decide+kernel
theorem qDQ(t:Tk)(f:Nat)(h:we)(hf:t.flags=f)(hf2:f<32):ACalls Tryz.prog 258 [.agg (tkC t)] h (.bool (!qlg t.flags&& !mkB t.flags)) h:=by
 have e1:=qwc f hf2;have eg:qlg t.flags=f.testBit 1:=by unfold qlg;rw[hf,itn]
 have ek:mkB t.flags=f.testBit 3:=by unfold mkB;rw[hf,itn]
 rw[eg,ek];cases g1:f.testBit 1<;>cases g2:f.testBit 3<;>rw[g1,g2]at e1<;>simp only[Bool.false_eq_true,if_false,if_true,Int.add_zero,Int.zero_add]at e1
 all_goals
  refine acO qyz ?_;simp (disch:=omega) only[qwY,tkC,hf,e1,go_sem]
  repeat' first|exact v7|fail
structure qst (t:Tk):Prop where
 tx:t.text.length<=1000000000
 nm:t.norm.length<=1000000000
 pg:t.page.length<=1000000000
 na:t.name.length<=1000000000
theorem tkP(t:Tk)(h:we)(hz:qst t)(hp:ku SG h):ACalls Tryz.prog 185 [.agg (tkC t)] h (.int .i64 (tkE t)) h:=by
 obtain⟨R,hR⟩:=wc (tkE t)
 rw[<-hR];unfold tkE at hR
 by_cases g1:t.flags<0
 ·have k1:(t.flags<0)=True:=eqt g1;rw[ipo (.inl g1)]at hR;rw[hR];refine acO jg ?_;simp (disch:=omega) only[kA,tkC,go_sem]
  repeat' first|(apply qa;exact rvk;simp only[go_sem];first|exact qi|apply qe)|(with_reducible first|intro _|apply aiA)|exact clz|fail
 have k1:(t.flags<0)=False:=eqf g1
 by_cases g2:31<t.flags
 ·have k2:((31:Int)<t.flags)=True:=eqt g2;rw[ipo (.inr g2)]at hR;rw[hR];refine acO jg ?_;simp (disch:=omega) only[kA,tkC,go_sem]
  repeat' first|(apply qa;exact rvk;simp only[go_sem];first|exact qi|apply qe)|(with_reducible first|intro _|apply aiA)|exact clz|fail
 have k2:((31:Int)<t.flags)=False:=eqf g2;rw[ine om]at hR;obtain⟨f,hf⟩: ∃f:Nat,t.flags=(f:Int):=⟨t.flags.toNat,om⟩
 have hf2:f<32:=by omega
 have e2:=qBA f hf2;have e8:=qBC f hf2;have eg:qlg t.flags=f.testBit 1:=by unfold qlg;rw[hf,itn]
 have ek:mkB t.flags=f.testBit 3:=by unfold mkB;rw[hf,itn]
 have cI:=λh=>qDQ t f h hf hf2
 have cP:=λl=>qCO t.page (h++l) hz.pg
 have cM:=λl=>qCO t.name (h++l) hz.na
 have hG:=λl=>qEu t.text (h++l) hz.tx (hp.app l)
 have cK:=λl=>qEJ t.text (h++l) hz.tx
 have cW:=λl=>t88 t.text (h++l) hz.tx
 have cN:=λl=>qCP t.norm (h++l) hz.nm
 unfold txB at hR;rw[eg,ek]at hR cI;obtain⟨bp,hbp⟩: ∃b,b=qum t.page:=⟨_,rfl⟩
 obtain⟨bm,hbm⟩: ∃b,b=qum t.name:=⟨_,rfl⟩
 obtain⟨bg,hbg⟩: ∃b,b=qdo t.text:=⟨_,rfl⟩
 obtain⟨bk,hbk⟩: ∃b,b=qv0 t.text:=⟨_,rfl⟩
 obtain⟨bw,hbw⟩: ∃b,b=jr t.text:=⟨_,rfl⟩
 obtain⟨bn,hbn⟩: ∃b,b=qzM t.norm:=⟨_,rfl⟩
 rw[<-hbp,<-hbm,<-hbg,<-hbk,<-hbw,<-hbn]at hR;simp only[<-hbp]at cP;simp only[<-hbm]at cM;simp only[<-hbg]at hG;simp only[<-hbk]at cK;simp only[<-hbw]at cW;simp only[<-hbn]at cN;unfold tkC at cI;rw[hf]at cI k1 k2;cases ga:f.testBit 1<;>cases gb:f.testBit 3<;>rw[ga]at e2 hR cI<;>rw[gb]at e8 hR cI<;>simp only[Bool.false_eq_true,if_true,if_false,and_true,and_false,Bool.not_false,Bool.not_true,Bool.and_false,Bool.and_true]at e2 e8 hR cI
 ·cases bw with
  |false=>
   rw[Bool.false_and,ipo rfl]at hR;rw[hR];refine acO jg ?_;simp (disch:=omega) only[kA,tkC,hf,k1,k2,e2,e8,go_sem]
   repeat' first|(refine qF (cW _) ?_;simp (disch:=omega) only[go_sem])|exact v7|fail
  |true=>
  rw[Bool.true_and]at hR;cases bn with
  |false=>
   rw[ipo rfl]at hR;rw[hR];refine acO jg ?_;simp (disch:=omega) only[kA,tkC,hf,k1,k2,e2,e8,go_sem]
   repeat' first|(refine qF (cW _) ?_;simp (disch:=omega) only[go_sem])|((first|refine cA (cI _) ?_ ?_|refine cG (λe=>cN _) ?_ ?_);exact flk;simp (disch:=omega) only[go_sem])|exact v7|fail
  |true=>
   rw[ine (by simp)]at hR
   by_cases g4:t.line<0
   ·have k4:(t.line<0)=True:=eqt g4;rw[ipo g4]at hR;rw[hR];refine acO jg ?_;simp (disch:=omega) only[kA,tkC,hf,k1,k2,e2,e8,go_sem]
    repeat' first|(refine qF (cW _) ?_;simp (disch:=omega) only[k4,go_sem])|((first|refine cA (cI _) ?_ ?_|refine cG (λe=>cN _) ?_ ?_);exact flk;simp (disch:=omega) only[k4,go_sem])|(apply qa;exact rvk;simp only[go_sem];first|exact qi|apply qe)|(with_reducible first|intro _|apply aiA)|exact clz|fail
   have k4:(t.line<0)=False:=eqf g4;rw[ine g4]at hR;cases bp with
   |false=>
    rw[ipo (.inl rfl)]at hR;rw[hR];refine acO jg ?_;simp (disch:=omega) only[kA,tkC,hf,k1,k2,e2,e8,go_sem]
    repeat' first|(refine qF (cW _) ?_;simp (disch:=omega) only[k4,go_sem])|(refine ql ( .bool false) ?_;simp (disch:=omega) only[go_sem])|((first|refine cA (cI _) ?_ ?_|refine cG (λe=>cN _) ?_ ?_|refine cA (cP _) ?_ ?_);exact flk;simp (disch:=omega) only[k4,go_sem])|(apply qa;exact rvk;simp only[go_sem];first|exact qi|apply qe)|(with_reducible first|intro _|apply aiA)|exact clz|fail
   |true=>
   cases bm with
   |false=>
    rw[ipo (.inr rfl)]at hR;rw[hR];refine acO jg ?_;simp (disch:=omega) only[kA,tkC,hf,k1,k2,e2,e8,go_sem]
    repeat' first|(refine qF (cW _) ?_;simp (disch:=omega) only[k4,go_sem])|((first|refine cA (cI _) ?_ ?_|refine cG (λe=>cN _) ?_ ?_|refine cA (cP _) ?_ ?_|refine cG (λe=>cM _) ?_ ?_);exact flk;simp (disch:=omega) only[k4,go_sem])|(apply qa;exact rvk;simp only[go_sem];first|exact qi|apply qe)|(with_reducible first|intro _|apply aiA)|exact clz|fail
   |true=>
    rw[ine (by simp)]at hR;rw[hR];refine acO jg ?_;simp (disch:=omega) only[kA,tkC,hf,k1,k2,e2,e8,go_sem]
    repeat' first|(refine qF (cW _) ?_;simp (disch:=omega) only[k4,go_sem])|((first|refine cA (cI _) ?_ ?_|refine cG (λe=>cN _) ?_ ?_|refine cA (cP _) ?_ ?_|refine cG (λe=>cM _) ?_ ?_);exact flk;simp (disch:=omega) only[k4,go_sem])|(apply qa;exact rvk;simp only[go_sem];first|exact qi|apply qe)|(with_reducible first|intro _|apply aiA)|exact clz|fail
 ·cases bk with
  |false=>
   rw[Bool.false_and,ipo rfl]at hR;rw[hR];refine acO jg ?_;simp (disch:=omega) only[kA,tkC,hf,k1,k2,e2,e8,go_sem]
   repeat' first|(refine qF (cK _) ?_;simp (disch:=omega) only[go_sem])|(apply qa;exact rvk;simp only[go_sem];first|exact qi|apply qe)|(with_reducible first|intro _|apply aiA)|exact clz|fail
  |true=>
  rw[Bool.true_and]at hR
  by_cases g3:t.norm=t.text
  ·have k3:(t.norm=t.text)=True:=eqt g3;rw[dqt g3,ine (by simp)]at hR
   by_cases g4:t.line<0
   ·have k4:(t.line<0)=True:=eqt g4;rw[ipo g4]at hR;rw[hR];refine acO jg ?_;simp (disch:=omega) only[kA,tkC,hf,k1,k2,e2,e8,go_sem]
    repeat' first|(refine qF (cK _) ?_;simp (disch:=omega) only[k4,go_sem])|(refine ql ( .bool false) ?_;simp (disch:=omega) only[k4,go_sem])|(refine cA (cI _) flk ?_;simp (disch:=omega) only[k3,k4,go_sem])|(apply qa;exact rvk;simp only[go_sem];first|exact qi|apply qe)|(with_reducible first|intro _|apply aiA)|exact clz|fail
   have k4:(t.line<0)=False:=eqf g4;rw[ine g4]at hR;cases bp with
   |false=>
    rw[ipo (.inl rfl)]at hR;rw[hR];refine acO jg ?_;simp (disch:=omega) only[kA,tkC,hf,k1,k2,e2,e8,go_sem]
    repeat' first|(refine qF (cK _) ?_;simp (disch:=omega) only[k4,go_sem])|(refine ql ( .bool false) ?_;simp (disch:=omega) only[k4,go_sem])|((first|refine cA (cI _) ?_ ?_|refine cA (cP _) ?_ ?_);exact flk;simp (disch:=omega) only[k3,k4,go_sem])|(apply qa;exact rvk;simp only[go_sem];first|exact qi|apply qe)|(with_reducible first|intro _|apply aiA)|exact clz|fail
   |true=>
   cases bm with
   |false=>
    rw[ipo (.inr rfl)]at hR;rw[hR];refine acO jg ?_;simp (disch:=omega) only[kA,tkC,hf,k1,k2,e2,e8,go_sem]
    repeat' first|(refine qF (cK _) ?_;simp (disch:=omega) only[k4,go_sem])|(refine ql ( .bool false) ?_;simp (disch:=omega) only[k4,go_sem])|((first|refine cA (cI _) ?_ ?_|refine cA (cP _) ?_ ?_|refine cG (λe=>cM _) ?_ ?_);exact flk;simp (disch:=omega) only[k3,k4,go_sem])|(apply qa;exact rvk;simp only[go_sem];first|exact qi|apply qe)|(with_reducible first|intro _|apply aiA)|exact clz|fail
   |true=>
    rw[ine (by simp)]at hR;rw[hR];refine acO jg ?_;simp (disch:=omega) only[kA,tkC,hf,k1,k2,e2,e8,go_sem]
    repeat' first|(refine qF (cK _) ?_;simp (disch:=omega) only[k4,go_sem])|(refine ql ( .bool false) ?_;simp (disch:=omega) only[k4,go_sem])|((first|refine cA (cI _) ?_ ?_|refine cA (cP _) ?_ ?_|refine cG (λe=>cM _) ?_ ?_);exact flk;simp (disch:=omega) only[k3,k4,go_sem])|(apply qa;exact rvk;simp only[go_sem];first|exact qi|apply qe)|(with_reducible first|intro _|apply aiA)|exact clz|fail
  ·have k3:(t.norm=t.text)=False:=eqf g3;rw[dqf g3,ipo rfl]at hR;rw[hR];refine acO jg ?_;simp (disch:=omega) only[kA,tkC,hf,k1,k2,e2,e8,go_sem]
   repeat' first|(refine qF (cK _) ?_;simp (disch:=omega) only[go_sem])|(refine ql ( .bool false) ?_;simp (disch:=omega) only[go_sem])|(refine cA (cI _) flk ?_;simp (disch:=omega) only[k3,go_sem])|(apply qa;exact rvk;simp only[go_sem];first|exact qi|apply qe)|(with_reducible first|intro _|apply aiA)|exact clz|fail
 ·cases bg with
  |false=>
   rw[Bool.false_and,ipo rfl]at hR;rw[hR];refine acO jg ?_;simp (disch:=omega) only[kA,tkC,hf,k1,k2,e2,e8,go_sem]
   repeat' first|(refine qF (hG _) ?_;simp (disch:=omega) only[go_sem])|exact v7|(with_reducible first|intro _|apply aiA)|exact clz|fail
  |true=>
  rw[Bool.true_and]at hR
  by_cases g3:t.norm=t.text
  ·have k3:(t.norm=t.text)=True:=eqt g3;rw[dqt g3,ine (by simp)]at hR
   by_cases g4:t.line<0
   ·have k4:(t.line<0)=True:=eqt g4;rw[ipo g4]at hR;rw[hR];refine acO jg ?_;simp (disch:=omega) only[kA,tkC,hf,k1,k2,e2,e8,go_sem]
    repeat' first|(refine qF (hG _) ?_;simp (disch:=omega) only[k4,go_sem])|(refine ql ( .bool false) ?_;simp (disch:=omega) only[k4,go_sem])|(refine cA (cI _) flk ?_;simp (disch:=omega) only[k3,k4,go_sem])|exact v7|(with_reducible first|intro _|apply aiA)|exact clz|fail
   have k4:(t.line<0)=False:=eqf g4;rw[ine g4]at hR;cases bp with
   |false=>
    rw[ipo (.inl rfl)]at hR;rw[hR];refine acO jg ?_;simp (disch:=omega) only[kA,tkC,hf,k1,k2,e2,e8,go_sem]
    repeat' first|(refine qF (hG _) ?_;simp (disch:=omega) only[k4,go_sem])|(refine ql ( .bool false) ?_;simp (disch:=omega) only[k4,go_sem])|((first|refine cA (cI _) ?_ ?_|refine cA (cP _) ?_ ?_);exact flk;simp (disch:=omega) only[k3,k4,go_sem])|exact v7|(with_reducible first|intro _|apply aiA)|exact clz|fail
   |true=>
   cases bm with
   |false=>
    rw[ipo (.inr rfl)]at hR;rw[hR];refine acO jg ?_;simp (disch:=omega) only[kA,tkC,hf,k1,k2,e2,e8,go_sem]
    repeat' first|(refine qF (hG _) ?_;simp (disch:=omega) only[k4,go_sem])|(refine ql ( .bool false) ?_;simp (disch:=omega) only[k4,go_sem])|((first|refine cA (cI _) ?_ ?_|refine cA (cP _) ?_ ?_|refine cG (λe=>cM _) ?_ ?_);exact flk;simp (disch:=omega) only[k3,k4,go_sem])|exact v7|(with_reducible first|intro _|apply aiA)|exact clz|fail
   |true=>
    rw[ine (by simp)]at hR;rw[hR];refine acO jg ?_;simp (disch:=omega) only[kA,tkC,hf,k1,k2,e2,e8,go_sem]
    repeat' first|(refine qF (hG _) ?_;simp (disch:=omega) only[k4,go_sem])|(refine ql ( .bool false) ?_;simp (disch:=omega) only[k4,go_sem])|((first|refine cA (cI _) ?_ ?_|refine cA (cP _) ?_ ?_|refine cG (λe=>cM _) ?_ ?_);exact flk;simp (disch:=omega) only[k3,k4,go_sem])|exact v7|(with_reducible first|intro _|apply aiA)|exact clz|fail
  ·have k3:(t.norm=t.text)=False:=eqf g3;rw[dqf g3,ipo rfl]at hR;rw[hR];refine acO jg ?_;simp (disch:=omega) only[kA,tkC,hf,k1,k2,e2,e8,go_sem]
   repeat' first|(refine qF (hG _) ?_;simp (disch:=omega) only[go_sem])|(refine ql ( .bool false) ?_;simp (disch:=omega) only[go_sem])|(refine cA (cI _) flk ?_;simp (disch:=omega) only[k3,go_sem])|exact v7|(with_reducible first|intro _|apply aiA)|exact clz|fail
 ·rw[hR];refine acO jg ?_;simp (disch:=omega) only[kA,tkC,hf,k1,k2,e2,e8,go_sem]
  repeat' first|exact v7|(with_reducible first|intro _|apply aiA)|exact clz|fail
structure qfk (x:Co):Prop where
 sc:x.sec.length<=1000000000
 sg:x.sig.length<=1000000000
 ss: ∀i,(x.sig.getD i []).length<=1000000000
 tk:x.tok.length<=1000000000
 tl: ∀i,(x.tok.getD i []).length<=1000000000
 te: ∀i j,qst ((x.tok.getD i []).getD j default)
 cl:x.col.length<=1000000000
 ce: ∀i,(x.col.getD i []).length<=1000000000
theorem qC0(s:Str)(h:we)(hs:s.length<=1000000000):ACalls Tryz.prog 182 [.str s] h (.bool (qAv s)) h:=by
 have c1:=λh=>qxH s h hs
 unfold qAv;cases g:qix s with
 |true=>
  rw[g]at c1;simp only[if_true]at c1;have c2:=λh=>t44 (s.take (s.length-1)) h (by simp;omega)
  rw[ipo rfl];cases g2:dA (s.take (s.length-1))with
  |true=>
   rw[g2]at c2;have k7:decide ((s.length:Int)<=16)=decide (s.length<=16):=decide_eq_decide.2 om;refine acO qgv ?_;simp (disch:=omega) only[qj7,go_sem]
   repeat' first|((first|refine cA (c1 _) ?_ ?_|refine cA (c2 _) ?_ ?_);exact flk;simp (disch:=omega) only[k7,go_sem])|exact v8|with_reducible apply aiA|exact clz|fail
  |false=>
   rw[g2]at c2;refine acO qgv ?_;simp (disch:=omega) only[qj7,go_sem]
   repeat' first|((first|refine cA (c1 _) ?_ ?_|refine cA (c2 _) ?_ ?_);exact flk;simp (disch:=omega) only[go_sem])|exact v8|with_reducible apply aiA|exact clz|fail
 |false=>
  rw[g]at c1;rw[ine (by simp)]at c1 ⊢;have c2:=λh=>t44 s h hs
  cases g2:dA s with
  |true=>
   rw[g2]at c2;refine acO qgv ?_;simp (disch:=omega) only[qj7,go_sem]
   repeat' first|((first|refine cA (c1 _) ?_ ?_|refine cA (c2 _) ?_ ?_);exact flk;simp (disch:=omega) only[go_sem])|exact v8|with_reducible apply aiA|exact clz|fail
  |false=>
   rw[g2]at c2;refine acO qgv ?_;simp (disch:=omega) only[qj7,go_sem]
   repeat' first|((first|refine cA (c1 _) ?_ ?_|refine cA (c2 _) ?_ ?_);exact flk;simp (disch:=omega) only[go_sem])|exact v8|with_reducible apply aiA|exact clz|fail
theorem qE0(t:Tk)(h:we)(hz:qst t)(hp:ku SG h):ACalls Tryz.prog 184 [.agg (tkC t)] h (.bool (!decide (tkE t=0))) h:=by
 have c1:=λl=>tkP t (h++l) hz (hp.app l)
 obtain⟨e,he⟩:=wc (tkE t)
 rw[<-he]at c1 ⊢;unfold tkC at c1;refine acO qyg ?_;simp (disch:=omega) only[qwH,tkC,go_sem]
 repeat' first|(refine cA (c1 _) flk ?_;simp (disch:=omega) only[go_sem])|exact v7|fail
theorem qEf(l:List Tk)(h:we)(hl:l.length<=1000000000)(hz: ∀j,qst (l.getD j default))(hp:ku SG h):
  ACalls Tryz.prog 183 [ja l,.fn (.func 184) [] []] h (.bool (jK (λj=> !decide (tkE (l.getD j default)=0)) l.length)) h:=by
 unfold ja;refine qvY qrH ⟨rfl,rfl⟩ ⟨rfl,rfl⟩ (qex qrO l.length (λj=>tkC (l.getD j default)) (λj=> .agg (tkC (l.getD j default))) _ [] [] _ h (λi _=>⟨rfl,by simp[jZ,tkC],rfl,rfl,rfl⟩) (λi _=> ?_) om);exact qE0 _ h (hz i) hp
theorem qE1(x:Co)(h:we)(hz:qfk x)(hp:ku SG h):ACalls Tryz.prog 111 [.str x.sec,strs x.sig,qp x.tok] h (.int .i64 (srE x)) h:=by
 obtain⟨R,hR⟩:=wc (srE x)
 rw[<-hR];unfold srE at hR;have z1:=hz.sg;have z2:=hz.tk;have cN:=λh=>t44 x.sec h hz.sc
 cases g0:dA x.sec with
 |false=>
  rw[g0]at cN;rw[ipo g0]at hR;rw[hR];refine acO qgs ?_;simp (disch:=omega) only[qj4,strs,qp,go_sem]
  repeat' first|(refine cA (cN _) flk ?_;simp (disch:=omega) only[go_sem])|exact v8|fail
 |true=>
 rw[g0]at cN;rw[ine (by rw[g0];simp)]at hR
 by_cases g1:x.sig.length=0
 ·have k1:((x.sig.length:Int)=0)=True:=wh;rw[ipo g1]at hR;rw[hR];refine acO qgs ?_;simp (disch:=omega) only[qj4,strs,qp,go_sem]
  repeat' first|(refine cA (cN _) flk ?_;simp (disch:=omega) only[k1,go_sem])|exact v8|fail
 have k1:((x.sig.length:Int)=0)=False:=wi;rw[ine g1]at hR
 by_cases g2:32<x.sig.length
 ·have k2:((32:Int)<x.sig.length)=True:=wh;rw[ipo g2]at hR;rw[hR];refine acO qgs ?_;simp (disch:=omega) only[qj4,strs,qp,go_sem]
  repeat' first|(refine cA (cN _) flk ?_;simp (disch:=omega) only[k1,k2,go_sem])|exact v8|fail
 have k2:((32:Int)<x.sig.length)=False:=wi;rw[ine g2]at hR;refine acO qgs ?_;simp (disch:=omega) only[qj4,strs,qp,go_sem]
 repeat' first|(refine cA (cN _) flk ?_;simp (disch:=omega) only[k1,k2,go_sem])
 refine qt (T:=λi:Nat=>zg 56 [(1,strs x.sig),(2,qp x.tok),(23,strs x.sig),(24,.int .i64 x.sig.length),(25,.int .i64 i)]) (H:=λ_=>h) (inv:=λi=>i<=x.sig.length∧ ∀j,j<i->Ux x.sig j=0) (m:=λi=>x.sig.length-i) 0 ⟨nzl _,λj hj=>by omega⟩ (Wk.temps ?_) ?_
 ·(simp only[strs,qp,go_sem,qh,qf,qb,qg];try exact wa)
 rintro i ⟨i1,i2⟩ K hK
 by_cases hi:i<x.sig.length
 ·have k3:((i:Int)<x.sig.length)=True:=wh;have k4:((i:Int)<=x.sig.length)=True:=wh;have hE:=qbA (f:=Ux x.sig) hi i2;have hs:Ux x.sig i=if qAv (x.sig.getD i [])=false then 14 else if jK (λj=>decide (x.sig.getD i []=x.sig.getD j [])) i=true then 7 else 0:=rfl
  have c87:=λh=>qC0 (x.sig.getD i []) h (hz.ss i)
  have c88:=λh=>qB3 i (λj=>x.sig.getD j []) (x.sig.getD i []) h om
  obtain⟨s,hsx⟩:=wc (x.sig.getD i [])
  have es:=hsx.symm;rw[es]at hs c87;simp only[es]at hs c88;cases g3:qAv s with
  |false=>
   rw[g3]at c87;rw[ipo g3]at hs;have hne:qaM (Ux x.sig) 0 x.sig.length≠0:=by rw[hE (by rw[hs];decide),hs];decide
   have hV:R=14:=by rw[hR,ipo hne,hE (by rw[hs];decide),hs]
   rw[hV];simp (disch:=omega) only[strs,qp,k3,es,go_sem]
   repeat' first|(refine cA (c87 _) flk ?_;simp (disch:=omega) only[k4,go_sem])|exact v8|with_reducible apply aiA|exact clz|fail
  |true=>
  rw[g3]at c87;rw[ine (by rw[g3];simp)]at hs;cases g4:jK (λj=>decide (s=x.sig.getD j [])) i with
  |true=>
   rw[g4]at c88;rw[ipo g4]at hs;have hne:qaM (Ux x.sig) 0 x.sig.length≠0:=by rw[hE (by rw[hs];decide),hs];decide
   have hV:R=7:=by rw[hR,ipo hne,hE (by rw[hs];decide),hs]
   rw[hV];simp (disch:=omega) only[strs,qp,k3,es,go_sem]
   repeat' first|((first|refine cA (c87 _) ?_ ?_|refine cA (c88 _) ?_ ?_);exact flk;simp (disch:=omega) only[k4,Nat.sub_zero,go_sem])|exact v8|with_reducible apply aiA|exact clz|fail
  |false=>
   rw[g4]at c88;rw[ine (by rw[g4];simp)]at hs;simp (disch:=omega) only[strs,qp,k3,es,go_sem]
   repeat' first|((first|refine cA (c87 _) ?_ ?_|refine cA (c88 _) ?_ ?_);exact flk;simp (disch:=omega) only[k4,Nat.sub_zero,go_sem])|with_reducible apply aiA|exact clz|fail
   refine hK _ _ (i+1) ⟨hi,λj hj=> ?_⟩ om (Wk.temps ?_)
   ·by_cases e:j=i
    ·subst e;exact hs
    ·exact i2 j om
   ·(simp only[strs,qp,go_sem,qh,qf,qb,qg];try exact wa)
 have k3:((i:Int)<x.sig.length)=False:=wi;have hn0:=kK (f:=Ux x.sig) (λj (hj:j<x.sig.length)=>i2 j om);rw[ine (λhc=>hc hn0)]at hR
 by_cases g5:x.tok.length=x.sig.length
 case neg=>
  have k5:((x.tok.length:Int)=x.sig.length)=False:=wi;rw[ipo g5]at hR;rw[hR];simp (disch:=omega) only[strs,qp,k3,k5,go_sem]
  repeat' first|exact v8|fail
 have k5:((x.tok.length:Int)=x.sig.length)=True:=wh;rw[ine (λhc=>hc g5)]at hR;clear hK;simp (disch:=omega) only[strs,qp,k3,k5,go_sem];obtain⟨rw0,hrw⟩: ∃f:Nat->Int,f=λi=>qiM (x.tok.getD i []):=⟨_,rfl⟩
 have er: ∀i,rw0 i=qiM (x.tok.getD i []):=λi=>by rw[hrw]
 rw[<-hrw]at hR;refine qt (T:=λi:Nat=>zg 56 [(44,qp x.tok),(45,.int .i64 x.tok.length),(46,.int .i64 i)]) (H:=λ_=>h) (inv:=λi=>i<=x.tok.length∧ ∀j,j<i->rw0 j=0) (m:=λi=>x.tok.length-i) 0 ⟨nzl _,λj hj=>by omega⟩ (Wk.temps ?_) ?_
 ·(simp only[qp,go_sem,qh,qf,qb,qg];try exact wa)
 rintro i ⟨i1,i2⟩ K hK
 by_cases hi:i<x.tok.length
 ·have k6:((i:Int)<x.tok.length)=True:=wh;have hE:=qbA (f:=rw0) hi i2;have hs:=er i;have zl:=hz.tl i;have zt:=hz.te i;obtain⟨l,hl⟩:=wc (x.tok.getD i [])
  have el:=hl.symm;rw[el]at hs zl;simp only[el]at zt;unfold qiM at hs
  by_cases g6:1024<l.length
  ·have k7:((1024:Int)<l.length)=True:=wh;rw[ipo g6]at hs;have hV:R=4:=by rw[hR,hE (by rw[hs];decide),hs]
   rw[hV];simp (disch:=omega) only[qp,ja,k6,k7,el,go_sem]
   repeat' first|exact v8|with_reducible apply aiA|exact clz|fail
  have k7:((1024:Int)<l.length)=False:=wi;rw[ine g6]at hs;have cT:=qEf l h zl zt hp;have eA:jK (λj=>decide (tkE (l.getD j default)≠0)) l.length=jK (λj=> !decide (tkE (l.getD j default)=0)) l.length:=qho λj _=>by simp
  rw[eA]at hs;unfold ja at cT;obtain⟨b,hb⟩:=wc (jK (λj=> !decide (tkE (l.getD j default)=0)) l.length)
  rw[<-hb]at hs cT;cases b with
  |true=>
   rw[ipo rfl]at hs;have hV:R=1:=by rw[hR,hE (by rw[hs];decide),hs]
   rw[hV];simp (disch:=omega) only[qp,ja,k6,k7,el,go_sem]
   repeat' first|(refine cA (cT) flk ?_;simp (disch:=omega) only[go_sem])|exact v8|with_reducible apply aiA|exact clz|fail
  |false=>
   rw[ine (by simp)]at hs;simp (disch:=omega) only[qp,ja,k6,k7,el,go_sem]
   repeat' first|(refine cA (cT) flk ?_;simp (disch:=omega) only[go_sem])|with_reducible apply aiA|exact clz|fail
   refine hK _ _ (i+1) ⟨hi,λj hj=> ?_⟩ om (Wk.temps ?_)
   ·by_cases e:j=i
    ·subst e;exact hs
    ·exact i2 j om
   ·(simp only[qp,ja,go_sem,qh,qf,qb,qg];try exact wa)
 ·have k6:((i:Int)<x.tok.length)=False:=wi;rw[kK (λj (hj:j<x.tok.length)=>i2 j om)]at hR;rw[hR];simp (disch:=omega) only[qp,k6,go_sem]
  repeat' first|exact v8|fail
theorem qEL(l:List Tk)(h:we):ACalls Tryz.prog 262 [ja l] h (.bool (decide (1024<l.length))) h:=by
 have k:decide ((1024:Int)<l.length)=decide (1024<l.length):=decide_eq_decide.2 om;refine acO qyC ?_;simp (disch:=omega) only[qw0,ja,go_sem]
 repeat' first|(apply qc;exact rvk;simp only[go_sem];apply qd)|exact clz|fail
theorem qEM(L:List (List Tk))(h:we)(h1:0<L.length)(h2:L.length<=32)(h3: ∀s,s<L.length->(L.getD s []).length<=1024):ACalls Tryz.prog 186 [qp L] h (.int .i64 0) h:=by
 have k1:((L.length:Int)=0)=False:=wi;have k2:((32:Int)<L.length)=False:=wi;have c: ∀h,ACalls Tryz.prog 261 [qp L,.fn (.func 262) [] []] h (.bool false) h:=λh=>by
  have e:jK (λj=>decide (1024<(L.getD j []).length)) L.length=false:=qu.2 λs hs=>dqf (by have:=h3 s hs;omega)
  rw[<-e];unfold qp;refine qvY qyB ⟨rfl,rfl⟩ ⟨rfl,rfl⟩ (qex qyP L.length (λj=> [ja (L.getD j [])]) (λj=>ja (L.getD j [])) _ [] [] _ h (λi _=>⟨rfl,by simp[jZ],rfl,rfl,rfl⟩) (λi _=> ?_) om);exact qEL _ h
 unfold qp at c;refine acO qyh ?_;simp (disch:=omega) only[qwI,qp,k1,k2,go_sem]
 repeat' first|(refine cG (λe=>c _) flk ?_;simp (disch:=omega) only[go_sem])|exact v8|fail
def gC(g:Nat->AV)(n:Nat):wg:=(List.range n).map g
theorem ol(g:Nat->AV)(n:Nat):(gC g n).length=n:=by simp[gC]
theorem qb2{g:Nat->AV}{n k:Nat}(hk:k<n):(gC g n)[k]? =some (g k):=by
 unfold gC;rw[List.getElem?_map,List.getElem?_range hk];rfl
theorem qbB{p q:Nat->AV}{n:Nat}(h: ∀k,k<n->p k=q k):gC p n=gC q n:=by
 unfold gC;exact List.map_congr_left λk hk=>by rw[h k (List.mem_range.1 hk)]
theorem qzn{g:Nat->AV}{n u:Nat}(x:AV)(hu:u<n):List.take u (gC g n)++ [x]++List.drop (u+1) (gC g n)=gC (λk=>if k=u then x else g k) n:=by
 refine List.ext_getElem? λk=> ?_
 by_cases hk:k<n
 ·rw[qb2 hk]
  by_cases h1:k<u
  ·rw[List.append_assoc,List.getElem?_append_left (by rw[List.length_take,ol];omega),List.getElem?_take_of_lt h1,qb2 hk,ine om]
  ·by_cases h2:k=u
   ·subst h2;rw[List.append_assoc,List.getElem?_append_right (by rw[List.length_take,ol];omega),List.length_take,ol,show k-min k n=0 by omega,ipo rfl];rfl
   ·rw[List.getElem?_append_right (by rw[lap,List.length_take,ol];simp only[lco,lnl];omega),lap,List.length_take,ol,List.getElem?_drop];simp only[lco,lnl];rw[show u+1+(k-(min u n+(0+1)))=k by omega,qb2 hk,ine h2]
 ·rw[List.getElem?_eq_none (by simp only[lap,List.length_take,List.length_drop,ol,lco,lnl];omega),List.getElem?_eq_none (by rw[ol];omega)]
theorem qtV(z:AV)(n:Nat):zf [z] n=gC (λ_=>z) n:=by
 induction n with
 |zero=>rfl
 |succ n ih=>
  have e:gC (λ_=>z) (n+1)=z::gC (λ_=>z) n:=by
   unfold gC;rw[List.range_succ_eq_map,List.map_cons,List.map_map];rfl
  rw[e,<-ih];rfl
section
variable {tok : List (List Tk)} {col : List (List Int)} {i s : Nat}
theorem qth(h:(col.getD i []).length≠tok.length):qfu tok col i=false:=by unfold qfu;rw[dqf h,Bool.false_and]
theorem qxE(hs:s<tok.length)(h:enB tok col i s=false):qfu tok col i=false:=by
 unfold qfu;rw[qZ.2 ⟨s,hs,by rw[h];rfl⟩];simp
theorem qxF(h1:(col.getD i []).length=tok.length)(h2: ∀s,s<tok.length->enB tok col i s=true):qfu tok col i=jK (λs=> !decide ((col.getD i []).getD s 0= -1)) tok.length:=by
 unfold qfu;rw[dqt h1,qu.2 (λs hs=>by rw[h2 s hs];rfl)];simp
theorem qBz(hi:i<col.length)(h:qfu tok col i=false):alB tok col=false:=by
 unfold alB;rw[qZ.2 ⟨i,hi,by rw[h];rfl⟩];simp
theorem qwa(hs:s<tok.length)(h:cnC col s col.length≠(tok.getD s []).length):alB tok col=false:=by
 unfold alB;rw[qZ.2 ⟨s,hs,by rw[dqf h];rfl⟩,Bool.not_true,Bool.and_false]
theorem qwb(h1: ∀i,i<col.length->qfu tok col i=true)(h2: ∀s,s<tok.length->cnC col s col.length=(tok.getD s []).length):alB tok col=true:=by
 unfold alB;rw[qu.2 (λi hi=>by rw[h1 i hi];rfl),qu.2 (λs hs=>by rw[dqt (h2 s hs)];rfl)];rfl
theorem qxC: ∀i,cnC col s i<=i:=by
 intro i
 induction i with
 |zero=>exact nlr _
 |succ i ih=>unfold cnC;split<;>omega
def atA(col:List (List Int))(i s k:Nat):AV:= .int .i64 ((if k<s then cnC col k (i+1) else cnC col k i:Nat):Int)
theorem qwh:atA col i s s= .int .i64 (cnC col s i:Int):=by unfold atA;rw[ine (Nat.lt_irrefl _)]
theorem qBD(n:Nat):gC (atA col 0 0) n=gC (λ_=> .int .i64 0) n:=qbB λk _=>by unfold atA;rw[ine (nnz _)];rfl
theorem qsB(n:Nat):gC (atA col i n) n=gC (atA col (i+1) 0) n:=qbB λk hk=>by unfold atA;rw[ipo hk,ine (nnz _)]
theorem qor{n:Nat}(h:(col.getD i []).getD s 0= -1):gC (atA col i s) n=gC (atA col i (s+1)) n:=qbB λk hk=>by
 unfold atA
 by_cases e:k=s
 ·subst e;rw[ine (Nat.lt_irrefl _),ipo (Nat.lt_succ_self _)];show _=AV.int .i64 ((cnC col k i+if (col.getD i []).getD k 0= -1 then 0 else 1:Nat):Int);rw[ipo h];rfl
 ·by_cases h1:k<s
  ·rw[ipo h1,ipo om]
  ·rw[ine h1,ine om]
theorem qos{n:Nat}(hs:s<n)(h:(col.getD i []).getD s 0≠ -1):List.take s (gC (atA col i s) n)++ [.int .i64 ((cnC col s i:Int)+1)]++List.drop (s+1) (gC (atA col i s) n)=gC (atA col i (s+1)) n:=by
 rw[qzn _ hs];refine qbB λk hk=> ?_
 unfold atA
 by_cases e:k=s
 ·subst e;rw[ipo rfl,ipo (Nat.lt_succ_self _)];show _=AV.int .i64 ((cnC col k i+if (col.getD i []).getD k 0= -1 then 0 else 1:Nat):Int);rw[ine h];rfl
 ·rw[ine e]
  by_cases h1:k<s
  ·rw[ipo h1,ipo om]
  ·rw[ine h1,ine om]
theorem qja(p:Nat->Bool)(n:Nat):jK p (n+1)=(jK p n||p n):=by
 cases e:jK p n with
 |true=>obtain⟨i,h1,h2⟩:=qZ.1 e;exact qZ.2 ⟨i,om,h2⟩
 |false=>
  have h:=qu.1 e;cases e2:p n with
  |true=>exact qZ.2 ⟨n,om,e2⟩
  |false=>
   refine qu.2 λi hi=> ?_
   by_cases g:i=n
   ·subst g;exact e2
   ·exact h i om
end
theorem qD7(tok:List (List Tk))(col:List (List Int))(h:we)(hn:tok.length<=1000000000)(hc:col.length<=1000000000)(hl: ∀s,(tok.getD s []).length<=1000000000)(hm: ∀i,(col.getD i []).length<=1000000000):
  ACalls Tryz.prog 187 [qp tok,qw col] h (.bool (alB tok col)) h:=by
 have k0:(0<=(tok.length:Int))=True:=wh;have k1:((tok.length:Int)<=9223372036854775807)=True:=wh;obtain⟨R,hR⟩:=wc (alB tok col)
 rw[<-hR];refine acO qyi ?_;simp (disch:=omega) only[qwJ,qp,qw,k0,go_sem]
 repeat' first|with_reducible apply aiA|exact clz|fail
 all_goals try rw[itn]
 rw[qtV,<-qBD (col:=col)];refine qt (T:=λi:Nat=>zg 76 [(0,qp tok),(5,.osl h.length 1 1 0 tok.length),(15,qw col),(16,.int .i64 col.length),(17,.int .i64 i)])
  (H:=λi=>h++ [.mem 1 3 (gC (atA col i 0) tok.length)])
  (inv:=λi=>i<=col.length∧ ∀j,j<i->qfu tok col j=true) (m:=λi=>col.length-i) 0 ⟨nzl _,λj hj=>absurd hj (nnz j)⟩ (Wk.temps ?_) ?_
 ·(simp only[qp,qw,go_sem,qh,qf,qb,qg];try exact wa)
 rintro i ⟨i1,i2⟩ K hK
 by_cases hi:i<col.length
 ·have k2:((i:Int)<col.length)=True:=wh;have hno:qfu tok col i=false->R=false:=λhx=>by rw[hR];exact qBz hi hx
  have hlen:= @qth tok col i;have hen:= @qxE tok col i;have heq:= @qxF tok col i;have hskip:= @qor col i;have hstep:= @qos col i;have hmi:=hm i;have hE: ∀s,enB tok col i s=(decide ((col.getD i []).getD s 0= -1)||(decide ((col.getD i []).getD s 0=(cnC col s i:Int))&&decide ((col.getD i []).getD s 0<((tok.getD s []).length:Int)))):=λ_=>rfl
  obtain⟨c,hcx⟩:=wc (col.getD i [])
  have ec:=hcx.symm;rw[ec]at hlen heq hmi;simp only[ec]at hskip hstep hE
  by_cases g1:c.length=tok.length
  case neg=>
   have k3:((c.length:Int)=tok.length)=False:=wi;rw[hno (hlen g1)];simp (disch:=omega) only[qp,qw,qP,k2,k3,ec,go_sem]
   repeat' first|exact v7|with_reducible apply aiA|exact clz|fail
  have k3:((c.length:Int)=tok.length)=True:=wh;have heq:=heq g1;simp (disch:=omega) only[qp,qw,qP,k2,k3,ec,go_sem]
  repeat' first|with_reducible apply aiA|exact clz|fail
  refine qt (T:=λs:Nat=>zg 76 [(0,qp tok),(5,.osl h.length 1 1 0 tok.length),(8,.bool (jK (λs=> !decide (c.getD s 0= -1)) s)),(15,qw col),(16,.int .i64 col.length),(17,.int .i64 i),(26,qP c),(27,.int .i64 c.length),(28,.int .i64 s)])
   (H:=λs=>h++ [.mem 1 3 (gC (atA col i s) tok.length)])
   (inv:=λs=>s<=c.length∧ ∀j,j<s->enB tok col i j=true) (m:=λs=>c.length-s) 0 ⟨nzl _,λj hj=>absurd hj (nnz j)⟩ (Wk.temps ?_) ?_
  ·(simp only[qp,qw,qP,go_sem,qh,qf,qb,qg];try exact wa)
  rintro s ⟨s1,s2⟩ K2 hK2
  by_cases hs:s<c.length
  ·have t1:((s:Int)<c.length)=True:=wh;have t0:(0<=(s:Int))=True:=wh;have hsn:s<tok.length:=by omega
   have t2:((s:Int)<tok.length)=True:=wh;have t3:(s<tok.length)=True:=eqt hsn;have t4:(s+1<=tok.length)=True:=eqt hsn;have gl:=ol (atA col i s) tok.length;have gg:=qb2 (g:=atA col i s) hsn;rw[qwh]at gg;have hsk:=hskip (s:=s) (n:=tok.length);have hst:=hstep (s:=s) hsn;have hcn:= @qxC col s i;have hlt:=hl s;have hEs:=hE s;have hap:=qja (λs=> !decide (c.getD s 0= -1)) s;obtain⟨t,ht⟩:=wc (c.getD s 0)
   obtain⟨l,hlx⟩:=wc (tok.getD s [])
   have et:=ht.symm;have el:=hlx.symm;rw[et]at hsk hst hEs;rw[el]at hEs hlt;simp only[et]at hap;obtain⟨a,ha⟩:=wc (jK (λs=> !decide (c.getD s 0= -1)) s)
   have ea:=ha.symm;rw[ea]at hap;obtain⟨q,hq⟩: ∃q:Nat,q=cnC col s i:=⟨_,rfl⟩
   have eq:=hq.symm;rw[eq]at hst hEs hcn gg;have b2:((q:Int)+1<=9223372036854775807)=True:=wh;have b3:(-9223372036854775808<=(q:Int)+1)=True:=wh
   by_cases g2:t= -1
   ·have k4:(t= -1)=True:=eqt g2;rw[dqt g2,Bool.true_or]at hEs;have hap':jK (λs=> !decide (c.getD s 0= -1)) (s+1)=a:=by rw[hap,dqt g2];simp
    simp (disch:=omega) only[qp,qw,qP,t0,t1,t2,t3,k4,et,ea,gl,gg,Nat.mul_one,Nat.zero_add,go_sem]
    repeat' first|with_reducible apply aiA|exact clz|fail
    rw[hsk g2];refine hK2 _ _ (s+1) ⟨hs,λj hj=> ?_⟩ om (Wk.temps ?_)
    ·by_cases e:j=s
     ·subst e;exact hEs
     ·exact s2 j om
    ·rw[hap']
     (simp only[qp,qw,qP,go_sem,qh,qf,qb,qg];try exact wa)
   have k4:(t= -1)=False:=eqf g2;rw[dqf g2,Bool.false_or]at hEs;have hap':jK (λs=> !decide (c.getD s 0= -1)) (s+1)=true:=by rw[hap,dqf g2];simp
   by_cases g3:t=(q:Int)
   case neg=>
    have k5:(t=(q:Int))=False:=eqf g3;rw[dqf g3,Bool.false_and]at hEs;rw[hno (hen hsn hEs)];simp (disch:=omega) only[qp,qw,qP,t0,t1,t2,t3,t4,k4,k5,et,ea,gl,gg,Nat.mul_one,Nat.zero_add,go_sem]
    repeat' first|exact v7|with_reducible apply aiA|exact clz|fail
   have k5:(t=(q:Int))=True:=eqt g3;rw[dqt g3,Bool.true_and]at hEs
   by_cases g4:(l.length:Int)<=t
   ·have k6:((l.length:Int)<=t)=True:=eqt g4;rw[dqf om]at hEs;rw[hno (hen hsn hEs)];simp (disch:=omega) only[qp,ja,qw,qP,t0,t1,t2,t3,t4,k4,k5,k6,et,ea,el,gl,gg,Nat.mul_one,Nat.zero_add,go_sem]
    repeat' first|exact v7|with_reducible apply aiA|exact clz|fail
   ·have k6:((l.length:Int)<=t)=False:=eqf g4;rw[dqt om]at hEs;have hst:=hst g2;simp (disch:=omega) only[qp,ja,qw,qP,t0,t1,t2,t3,t4,k4,k5,k6,et,ea,el,gl,gg,hst,Nat.mul_one,Nat.zero_add,Option.isSome_some,go_sem]
    repeat' first|with_reducible apply aiA|exact clz|fail
    try rw[hst]
    refine hK2 _ _ (s+1) ⟨hs,λj hj=> ?_⟩ om (Wk.temps ?_)
    ·by_cases e:j=s
     ·subst e;exact hEs
     ·exact s2 j om
    ·rw[hap']
     (simp only[qp,ja,qw,qP,go_sem,qh,qf,qb,qg];try exact wa)
  ·have t1:((s:Int)<c.length)=False:=wi;have es:s=tok.length:=by omega
   have heq:=heq λj hj=>s2 j om
   rw[<-es]at heq;rw[es]at*;cases ga:jK (λs=> !decide (c.getD s 0= -1)) tok.length with
   |false=>
    rw[ga]at heq;rw[hno heq];simp (disch:=omega) only[qp,qw,qP,go_sem]
    repeat' first|exact v7|(with_reducible first|intro _|apply aiA)|exact clz|fail
   |true=>
    rw[ga]at heq;simp (disch:=omega) only[qp,qw,qP,go_sem]
    repeat' first|(with_reducible first|intro _|apply aiA)|exact clz|fail
    rw[qsB];refine hK _ _ (i+1) ⟨hi,λj hj=> ?_⟩ om (Wk.temps ?_)
    ·by_cases e:j=i
     ·subst e;exact heq
     ·exact i2 j om
    ·(simp only[qp,qw,qP,go_sem,qh,qf,qb,qg];try exact wa)
 have k2:((i:Int)<col.length)=False:=wi;obtain rfl:i=col.length:=by omega
 clear hK;simp (disch:=omega) only[qp,qw,k2,go_sem];refine qt (T:=λs:Nat=>zg 76 [(0,qp tok),(5,.osl h.length 1 1 0 tok.length),(61,.int .i64 tok.length),(62,.int .i64 s)])
  (H:=λ_=>h++ [.mem 1 3 (gC (atA col col.length 0) tok.length)])
  (inv:=λs=>s<=tok.length∧ ∀j,j<s->cnC col j col.length=(tok.getD j []).length) (m:=λs=>tok.length-s) 0 ⟨nzl _,λj hj=>absurd hj (nnz j)⟩ (Wk.temps ?_) ?_
 ·(simp only[qp,go_sem,qh,qf,qb,qg];try exact wa)
 rintro s ⟨s1,s2⟩ K hK
 by_cases hs:s<tok.length
 ·have t1:((s:Int)<tok.length)=True:=wh;have t0:(0<=(s:Int))=True:=wh;have t3:(s<tok.length)=True:=eqt hs;have t4:(s+1<=tok.length)=True:=eqt hs;have gl:=ol (atA col col.length 0) tok.length;have gg:=qb2 (g:=atA col col.length 0) hs;have e0:atA col col.length 0 s= .int .i64 (cnC col s col.length:Int):=by unfold atA;rw[ine (nnz _)]
  rw[e0]at gg;have hno:= @qwa tok col s hs;obtain⟨q,hq⟩: ∃q:Nat,q=cnC col s col.length:=⟨_,rfl⟩
  have eq:=hq.symm;have hs2:q=(tok.getD s []).length->cnC col s col.length=(tok.getD s []).length:=λe=>by rw[<-hq];exact e
  rw[eq]at gg hno;obtain⟨l,hlx⟩:=wc (tok.getD s [])
  have el:=hlx.symm;rw[el]at hno hs2
  by_cases g:q=l.length
  ·have k5:((q:Int)=l.length)=True:=wh;simp (disch:=omega) only[qp,ja,t0,t1,t3,k5,el,gl,gg,Nat.mul_one,Nat.zero_add,go_sem]
   repeat' first|with_reducible apply aiA|exact clz|fail
   refine hK _ _ (s+1) ⟨hs,λj hj=> ?_⟩ om (Wk.temps ?_)
   ·by_cases e:j=s
    ·subst e;rw[el];exact hs2 g
    ·exact s2 j om
   ·(simp only[qp,ja,go_sem,qh,qf,qb,qg];try exact wa)
  ·have k5:((q:Int)=l.length)=False:=wi;rw[hR,hno g];simp (disch:=omega) only[qp,ja,t0,t1,t3,k5,el,gl,gg,Nat.mul_one,Nat.zero_add,go_sem]
   repeat' first|exact v7|with_reducible apply aiA|exact clz|fail
 ·have t1:((s:Int)<tok.length)=False:=wi;rw[hR,qwb i2 (λj hj=>s2 j om)];simp (disch:=omega) only[qp,t1,go_sem]
  repeat' first|exact v7|fail
theorem qEK(tok:List (List Tk))(col:List (List Int))(h:we)(h1:0<tok.length)(h2:tok.length<=32)(h3: ∀s,s<tok.length->(tok.getD s []).length<=1024)(hc:col.length<=1000000000)(hl: ∀s,(tok.getD s []).length<=1000000000)(hm: ∀i,(col.getD i []).length<=1000000000):
  ACalls Tryz.prog 112 [qp tok,qw col] h (.int .i64 (if alB tok col=true then 0 else 19)) h:=by
 have c1:=λh=>qEM tok h h1 h2 h3
 have c2:=λh=>qD7 tok col h om hc hl hm
 cases g:alB tok col<;>rw[g]at c2
 all_goals
  refine acO qxV ?_;simp (disch:=omega) only[qwp,go_sem]
  repeat' first|((first|refine cA (c1 _) ?_ ?_|refine cA (c2 _) ?_ ?_);exact flk;simp (disch:=omega) only[go_sem])|exact v8|fail
theorem qAy{x:Co}(h:srE x=0):0<x.sig.length∧x.sig.length<=32∧x.tok.length=x.sig.length∧ ∀s,s<x.tok.length->(x.tok.getD s []).length<=1024:=by
 unfold srE at h;split at h
 ·cases h
 split at h
 ·cases h
 rename_i g2;split at h
 ·cases h
 rename_i g3;split at h
 ·rename_i g4;exact absurd h g4
 split at h
 ·cases h
 rename_i g5;have h3:=jR.1 h;refine⟨om,om,Classical.not_not.1 g5,λs hs=> ?_⟩
 have:=h3 s hs
 unfold qiM at this;split at this
 ·cases this
 ·omega
theorem coP(x:Co)(h:we)(hz:qfk x)(hp:ku SG h):ACalls Tryz.prog 47 [.agg (coC x)] h (.int .i64 (coE x)) h:=by
 have c1:=λl=>qE1 x (h++l) hz (hp.app l)
 unfold coE
 by_cases g:srE x=0
 case neg=>
  have k1:(srE x=0)=False:=eqf g;rw[ipo g];obtain⟨e,he⟩:=wc (srE x)
  rw[<-he]at c1 k1 ⊢;unfold strs qp at c1;refine acO qzb ?_;simp (disch:=omega) only[qBN,coC,strs,qp,go_sem]
  repeat' first|(refine cA (c1 _) flk ?_;simp (disch:=omega) only[k1,go_sem])|exact v7|fail
 rw[ine (λhc=>hc g)];obtain⟨o1,o2,o3,o4⟩:=qAy g;have c2:=λh=>qEK x.tok x.col h om om o4 hz.cl hz.tl hz.ce
 rw[g]at c1;unfold strs qp at c1;unfold qp qw at c2;cases g2:alB x.tok x.col<;>rw[g2]at c2
 all_goals
  refine acO qzb ?_;simp (disch:=omega) only[qBN,coC,strs,qp,qw,go_sem]
  repeat' first|((first|refine cA (c1 _) ?_ ?_|refine cA (c2 _) ?_ ?_);exact flk;simp (disch:=omega) only[go_sem])|(apply qa;exact rvk;simp only[go_sem];first|exact qi|apply qe)|(with_reducible first|intro _|apply aiA)|exact clz|fail
end RC
end
section
open Go Go.Proofs AF
def jf:List Nat:= []
def qsR:C:=
 (vS [O1 3 (.box 0 26) 0,MC 6 (.str []),MC 7 (.bool false)] (vS [vL 9 3 3,LD 10 9,MV 11 1,O2 12 (.idxA 1) 10 11,LD 13 12,MV 14 2,O2 15 (.idxA 1) 13 14,LD 16 15,MV 8 16] ((vS [MV
 17 8,vN 18 .lss 17 0] (vT 18 (vV [MC 6 (.str []),MC 7 (.bool false)]))).seq (vV [vL 19 2 3,LD 20 19,MV 21 2,O2 22 (.idxA 1) 20 21,LD 23 22,MV 24 8,O2 25 (.idxA 6) 23 24,vL 26 0
 25,LD 27 26,MV 6 27,MC 7 (.bool true)]))))
theorem qrK:qK Tryz.prog 215 28 1 [RV.tmp 6,RV.tmp 7] qsR:=fi Tryz.f215 [3] jf []
def qwu:C:=
 (vS [O1 2 (.box 0 26) 0,MC 4 (.bool false)] (vS [O1 11 (.load (some 4)) 2,MV 12 1,ON 13 (.call 215 true) [.t 11,.t 12,.c (i6 0)],MV 10 13,O1 14 (.ext 0) 10,O1 15 (.ext 1) 10,MV
 5 14,MV 6 15] ((vS [vL 16 1 2,LD 17 16,O1 18 .len 17,vM 19 0] (C.block 0 (vS [BI 20 .lss 19 18] ((vU 20 0).seq ((C.block 1 (vS [MV 21 19,MV 7 21] (vS [O1 23 (.load (some 4))
 2,MV 24 1,MV 25 7,ON 26 (.call 215 true) [.t 23,.t 24,.t 25],MV 22 26,O1 27 (.ext 0) 22,O1 28 (.ext 1) 22,MV 8 27,MV 9 28] (vS [MV 29 6,O1 30 (.un UnOp.not) 29,MV 31 30,vQ 32
 31 9,vO 33 31 (.un UnOp.not) 32,PT 34 31 33,MV 35 34,vQ 36 35 8,vQ 37 35 5,vP 38 35 (.bin .neq) 36 37,PT 39 35 38] (vT 39 (vV [MC 4 (.bool false)])))))).seq (vW [vN 40 .add 19
 1,MV 19 40])))).loop)).seq (vV [MC 4 (.bool true)]))))
theorem qx3:qK Tryz.prog 140 41 1 [RV.tmp 4] qwu:=fi Tryz.f140 [2] jf []
def qDC:C:=
 (vS [O1 1 (.box 0 26) 0,MC 2 .nilfn] (vV [O1 3 (.mkfn (Fn.func 139) 0) 1,MV 2 3]))
theorem qCq:qK Tryz.prog 62 4 1 [RV.tmp 2] qDC:=fi Tryz.f62 [1] jf []
def qwt:C:=
 (vS [vM 3 0] (C.block 0 ((vS [MV 5 3,vL 6 3 1,LD 7 6,O1 8 .len 7,BI 9 .lss 5 8] (vU 9 0)).seq (C.block 1 (vS [MV 10 3,MV 4 10] ((C.block 2 ((vS [MV 11 4,vL 12 3 1,LD 13 12,O1 14
 .len 13,BI 15 .lss 11 14,MV 16 15,P1 17 16 true (.load (some 4)) 1,MG 18 16 true 4,P2 19 16 true (.call 140 true) 17 18,P1 20 16 true (.un UnOp.not) 19,PF 21 16 20] (vU 21
 2)).seq (C.block 3 (vX 22 4))).loop).seq ((vS [MV 24 4,MV 25 3,BI 26 .gtr 24 25,MV 27 26,MG 28 27 true 0,MG 29 27 true 3,MG 30 27 true 4,PN 31 27 true .callv [.t 28,.t 29,.t
 30],P1 32 27 true (.un UnOp.not) 31,PF 33 27 32] (vT 33 C.ret)).seq (vW [MV 34 4,vN 35 .add 34 1,MV 3 35])))))).loop))
theorem qx2:qK Tryz.prog 139 36 0 [] qwt:=fi Tryz.f139 [] jf []
def qwv:C:=
 (vS [O1 4 (.box 0 26) 0,ON 8 (.nilo 1 1 9) []] (vS [ON 9 (.nilo 2 1 9) []] ((vS [MV 13 1,MV 10 13] (C.block 0 ((vS [MV 14 10,MV 15 2,BI 16 .lss 14 15] (vU 16 0)).seq ((C.block 1
 (vS [O1 20 (.load (some 4)) 4,MV 21 10,MV 22 3,ON 23 (.call 215 true) [.t 20,.t 21,.t 22],MV 19 23,O1 24 (.ext 0) 19,O1 25 (.ext 1) 19,MV 11 24,MV 12 25] (vS [MV 26 12] (vT 26
 (vW [MV 27 9,MV 28 11,⟨some 29,none,.bslc 3 1 1 9 [.str []] [(0,1)],[.t 28]⟩,O2 30 (.app 4 1 9 16) 27 29,MV 9 30]))))).seq (vX 17 10))).loop)).seq (vV [MV 31 9,MV 8 31]))))
theorem qx4:qK Tryz.prog 141 32 5 [RV.tmp 8] qwv:=fi Tryz.f141 [4,8,9,29,30] jf []
def qww:C:=
 (vS [O1 4 (.box 0 152) 1,O1 5 (.box 1 218) 2,vM 6 0] (vV [MV 7 0,O2 8 (.mkfn (Fn.func 216) 0) 5 4,O2 9 (.call 91 true) 7 8,MV 6 9]))
theorem qx5:qK Tryz.prog 142 10 2 [RV.tmp 6] qww:=fi Tryz.f142 [4,5] jf []
def qwN:C:=
 (vS [O1 3 (.box 0 152) 0,MC 4 (.bool false)] (vV [LD 5 1,O1 6 (.load (some 2)) 2,O1 7 (.load (some 2)) 3,ON 8 .callv [.t 5,.t 6,.t 7],MV 4 8]))
theorem qyn:qK Tryz.prog 216 9 1 [RV.tmp 4] qwN:=fi Tryz.f216 [3] jf []
def qDD:C:=
 (vS [O1 3 (.box 0 26) 0,ON 6 (.nilo 1 2 152) []] (vS [ON 7 (.nilo 2 2 152) []] ((vS [vL 11 1 3,LD 12 11,O1 13 .len 12,vM 14 0] (C.block 0 (vS [BI 15 .lss 14 13] ((vU 15 0).seq
 ((C.block 1 (vS [MV 16 14,MV 8 16] (vS [O1 17 (.load (some 4)) 3,MV 18 1,MV 19 2,MV 20 8,ON 21 (.call 141 true) [.t 17,.t 18,.t 19,.t 20],MV 22 8,⟨some 23,none,.bslc 3 1 1 3
 [i6 0] [(0,1)],[.t 22]⟩,⟨some 24,none,.build [.nl,.nl] [(0,1),(1,1)],[.t 21,.t 23]⟩,⟨some 9,none,.alloc 4 152 [.nl,.nl],[]⟩,ST 2 9 24] (vS [MV 25 7,O1 26 (.load (some 2)) 9,ON
 27 (.call 142 true) [.t 25,.t 26,.c (.fn (Fn.func 143) [] [])],MV 10 27] ((vS [MV 28 10,vN 29 .lss 28 0] (vT 29 (vS [MV 30 7,O1 31 (.load (some 2)) 9,⟨some 32,none,.bslc 5 2 1
 152 [.nl,.nl] [(0,2)],[.t 31]⟩,O2 33 (.app 6 2 152 48) 30 32,MV 7 33] (C.exit 1)))).seq (vW [MV 34 7,MV 35 10,MV 36 7,MV 37 10,O2 38 (.idxA 2) 36 37,vL 39 1 38,LD 40 39,MV 41
 8,⟨some 42,none,.bslc 7 1 1 3 [i6 0] [(0,1)],[.t 41]⟩,O2 43 (.app 8 1 3 8) 40 42,O2 44 (.idxA 2) 34 35,vL 45 1 44,ST 1 45 43])))))).seq (vW [vN 46 .add 14 1,MV 14
 46])))).loop)).seq (vV [MV 47 7,MV 6 47]))))
theorem qCr:qK Tryz.prog 63 48 9 [RV.tmp 6] qDD:=fi Tryz.f63 [3,6,7,23,9,32,33,42,43] jf []
def qwx:C:=
 (vS [O1 2 (.box 0 152) 0,O1 3 (.box 1 152) 1,MC 4 (.bool false)] (vV [vL 5 0 2,LD 6 5,vL 7 0 3,LD 8 7,O2 9 (.call 18 true) 6 8,MV 4 9]))
theorem qx6:qK Tryz.prog 143 10 2 [RV.tmp 4] qwx:=fi Tryz.f143 [2,3] jf []
def qwU:C:=
 (vS [MC 4 (.bool false)] (vV [MV 5 0,MV 6 1,ON 7 (.call 291 true) [.t 5,.t 6,.c (.fn (Fn.func 292) [] [])],MV 4 7]))
theorem qyu:qK Tryz.prog 225 8 0 [RV.tmp 4] qwU:=fi Tryz.f225 [] jf []
def qsZ:C:=
 (vS [O1 2 (.box 0 152) 0,O1 3 (.box 1 152) 1,MC 4 (.bool false)] (vV [vL 5 0 2,LD 6 5,vL 7 0 3,LD 8 7,O2 9 (.call 18 true) 6 8,MV 10 9,P1 11 10 true (.fldA 1) 2,P1 12 10 true
 (.load none) 11,P1 13 10 true (.fldA 1) 3,P1 14 10 true (.load none) 13,P2 15 10 true (.call 30 true) 12 14,PF 16 10 15,MV 4 16]))
theorem qrT:qK Tryz.prog 292 17 2 [RV.tmp 4] qsZ:=fi Tryz.f292 [2,3] jf []
def qwF:C:=
 (vS [O1 2 (.box 0 26) 0,O1 3 (.box 1 31) 1,⟨some 4,none,.alloc 2 4 [.bool false],[]⟩] (vS [MC 5 (i6 (-1))] ((vS [LD 10 3,O1 11 .len 10,vM 12 0] (C.block 0 (vS [BI 13 .lss 12 11]
 ((vU 13 0).seq ((C.block 1 (vS [O2 14 (.idxA 3) 10 12,O1 15 (.load (some 3)) 14,⟨some 7,none,.alloc 3 39 [i6 0,i6 0,.nl],[]⟩,ST 3 7 15] ((vS [vL 16 0 7,LD 17 16,MV 18 5,BI 19
 .leq 17 18,MV 20 19,vZ 21 20 0 7,v6 22 20 21,vR 23 20 (.bin .lss) 22 (i6 0),PT 24 20 23,MV 25 24,vZ 26 25 0 7,v6 27 25 26,vZ 28 25 1 7,v6 29 25 28,vP 30 25 (.bin .geq) 27 29,PT
 31 25 30,MV 32 31,vZ 33 32 1 7,v6 34 32 33,vZ 35 32 3 2,v6 36 32 35,vO 37 32 .len 36,vP 38 32 (.bin .gtr) 34 37,PT 39 32 38,MV 40 39,vZ 41 40 2 7,v6 42 40 41,vO 43 40 (.load
 (some 4)) 2,vZ 44 40 0 7,v6 45 40 44,vZ 46 40 1 7,v6 47 40 46,PN 48 40 false (.call 63 true) [.t 43,.t 45,.t 47],vP 49 40 (.call 225 true) 42 48,vO 50 40 (.un UnOp.not) 49,PT
 51 40 50] (vT 51 (vV [⟨none,none,.store 1,[.t 4,.c (.bool false)]⟩]))).seq (vW [vL 52 1 7,LD 53 52,MV 5 53])))).seq (vW [vN 54 .add 12 1,MV 12 54])))).loop)).seq ((vS [O1 55
 (.load (some 4)) 2,O1 56 (.call 62 true) 55] (C.block 2 (C.range (.t 56) [57,58] (vS [⟨some 8,none,.alloc 4 3 [i6 0],[]⟩,ST 1 8 57] (vW [⟨some 9,none,.alloc 5 3 [i6 0],[]⟩,ST 1
 9 58])) (C.block 3 (vS [LD 59 3,O2 60 (.mkfn (Fn.func 226) 0) 8 9,O2 61 (.call 14 true) 59 60,O1 62 (.un UnOp.not) 61] (vT 62 (vV [⟨none,none,.store 1,[.t 4,.c (.bool
 false)]⟩]))))))).seq (vV [⟨none,none,.store 1,[.t 4,.c (.bool true)]⟩])))))
theorem qye:qK Tryz.prog 152 63 6 [RV.cell 4 none] qwF:=fi Tryz.f152 [2,3,4,7,8,9] jf []
def qsT:C:=
 (vS [O1 3 (.box 0 39) 0,MC 4 (.bool false)] (vV [vL 5 0 3,LD 6 5,LD 7 1,BI 8 .leq 6 7,MV 9 8,P1 10 9 true (.load none) 2,P1 11 9 true (.fldA 1) 3,P1 12 9 true (.load none) 11,P2
 13 9 true (.bin .leq) 10 12,PF 14 9 13,MV 4 14]))
theorem qrM:qK Tryz.prog 226 15 1 [RV.tmp 4] qsT:=fi Tryz.f226 [3] jf []
def qBQ:C:=
 (vS [O1 2 (.box 0 26) 0,vM 4 0] ((vS [O1 5 (.load (some 4)) 2,O1 6 (.call 47 true) 5,vN 7 .neq 6 0] (vT 7 (vV [vM 4 1]))).seq ((vS [O1 8 (.load (some 4)) 2,MV 9 1,O2 10 (.call
 152 true) 8 9,O1 11 (.un UnOp.not) 10] (vT 11 (vV [vM 4 20]))).seq (vV [vM 4 0]))))
theorem qzf:qK Tryz.prog 74 12 1 [RV.tmp 4] qBQ:=fi Tryz.f74 [2] jf []
def qBR:C:=
 (vS [O1 3 (.box 0 3) 1,vM 4 0,vM 5 0] ((vS [LD 6 3,vN 7 .lss 6 0] (vT 7 (vV [vM 4 0,vM 5 2]))).seq (vV [MV 8 0,O1 9 (.mkfn (Fn.func 153) 0) 3,O2 10 (.call 65 true) 8 9,MV 4
 10,vM 5 0])))
theorem qzg:qK Tryz.prog 76 11 1 [RV.tmp 4,RV.tmp 5] qBR:=fi Tryz.f76 [3] jf []
def qsN:C:=
 (vS [O1 2 (.box 0 39) 0,MC 3 (.bool false)] (vV [vL 4 0 2,LD 5 4,LD 6 1,BI 7 .leq 5 6,MV 8 7,P1 9 8 true (.load none) 1,P1 10 8 true (.fldA 1) 2,P1 11 8 true (.load none) 10,P2
 12 8 true (.bin .lss) 9 11,PF 13 8 12,MV 3 13]))
theorem qrF:qK Tryz.prog 153 14 1 [RV.tmp 3] qsN:=fi Tryz.f153 [2] jf []
end
section
open Go Go.Proofs AF
def qfA:List Nat:= []
def c9s:C:=
 (vS [O1 1 (.box 0 26) 0,MC 2 (.bool false)] ((vS [vM 3 0] (C.block 0 ((vS [MV 4 3,vL 5 3 1,LD 6 5,O1 7 .len 6,BI 8 .lss 4 7] (vU 8 0)).seq ((C.block 1 (vS [vL 11 3 1,LD 12 11,MV
 13 3,O2 14 (.idxA 1) 12 13,LD 15 14,O1 16 .len 15,vN 17 .gtr 16 36] (vT 17 (vV [MC 2 (.bool true)])))).seq (vX 9 3))).loop)).seq (vV [vL 18 2 1,LD 19 18,O1 20 (.call 58 true)
 19,MV 21 20,vZ 22 21 3 1,v6 23 21 22,vO 24 21 .len 23,vR 25 21 (.bin .gtr) 24 (i6 24),PT 26 21 25,MV 27 26,vZ 28 27 1 1,v6 29 27 28,vO 30 27 .len 29,vR 31 27 (.bin .gtr) 30 (i6
 36),PT 32 27 31,MV 33 32,vZ 34 33 0 1,v6 35 33 34,vZ 36 33 1 1,v6 37 33 36,vP 38 33 (.call 59 true) 35 37,PT 39 33 38,MV 2 39])))
theorem qEs:qK Tryz.prog 9 40 1 [RV.tmp 2] c9s:=fi Tryz.f9 [1] qfA []
def qDA:C:=
 (vS [MC 2 (.bool false)] (vS [vM 3 1] ((vS [vM 4 0] (C.block 0 ((vY 7 4 0 0).seq ((C.block 1 ((vS [MV 13 0,MV 14 4,O2 15 (.idxA 1) 13 14,LD 16 15,O1 17 .len 16,vN 18 .gtr 17
 6,MV 19 18,vQ 20 19 4,vR 21 19 (.bin .geq) 20 (i6 4),vQ 22 19 21,MG 23 22 true 0,MG 24 22 true 4,P2 25 22 true (.idxA 1) 23 24,P1 26 22 true (.load none) 25,P1 27 22 true .len
 26,PC 28 22 true (.bin .gtr) 27 (i6 1),QF 29 19 false 22 28,PT 30 19 29] (vT 30 (vV [MC 2 (.bool true)]))).seq ((vS [MV 31 4,vN 32 .lss 31 4] (vT 32 (vW [MV 33 3,MV 34 0,MV 35
 4,O2 36 (.idxA 1) 34 35,LD 37 36,O1 38 .len 37,vN 39 .add 38 1,BI 40 .mul 33 39,MV 3 40]))).seq (vS [vM 5 0] (C.block 2 ((vS [MV 41 5,MV 42 0,MV 43 4,O2 44 (.idxA 1) 42 43,LD
 45 44,O1 46 .len 45,BI 47 .lss 41 46] (vU 47 2)).seq ((C.block 3 (vS [MV 50 0,MV 51 4,O2 52 (.idxA 1) 50 51,LD 53 52,MV 54 5,O2 55 (.idxA 6) 53 54,O1 56 (.load (some 6))
 55,⟨some 6,none,.alloc 0 119 [.str [],.str [],.str [],i6 0,i6 0,.str []],[]⟩,ST 6 6 56] (vS [vL 57 0 6,LD 58 57,O1 59 .slen 58,vN 60 .gtr 59 12,MV 61 60,vZ 62 61 1 6,v6 63 61
 62,vO 64 61 .slen 63,vR 65 61 (.bin .gtr) 64 (i6 12),PT 66 61 65,MV 67 66,vZ 68 67 2 6,vZ 69 67 0 68,v6 70 67 69,vO 71 67 .slen 70,vR 72 67 (.bin .gtr) 71 (i6 20),PT 73 67
 72,MV 74 73,vZ 75 74 5 6,v6 76 74 75,vO 77 74 .slen 76,vR 78 74 (.bin .gtr) 77 (i6 20),PT 79 74 78] (vT 79 (vV [MC 2 (.bool true)]))))).seq (vX 48 5))).loop))))).seq (vX 11
 4))).loop)).seq (vV [MV 80 3,vN 81 .gtr 80 400,MV 82 81,vQ 83 82 0,vO 84 82 .len 83,vR 85 82 (.bin .gtr) 84 (i6 6),vQ 86 82 85,MG 87 86 true 0,P1 88 86 true .len 87,PC 89 86
 true (.bin .leq) 88 (i6 32),QF 90 82 false 86 89,PT 91 82 90,MV 92 91,vQ 93 92 0,vO 94 92 .len 93,vR 95 92 (.bin .gtr) 94 (i6 34),PT 96 92 95,MV 2 96]))))
theorem qCo:qK Tryz.prog 58 97 1 [RV.tmp 2] qDA:=fi Tryz.f58 [6] qfA []
def qDB:C:=
 (vS [MC 4 (.bool false)] ((vS [vM 5 0] (C.block 0 ((vY 6 5 1 0).seq ((C.block 1 (vS [MV 12 1,MV 13 5,O2 14 (.idxA 1) 12 13,LD 15 14,O1 16 .slen 15,vN 17 .gtr 16 20] (vT 17 (vV
 [MC 4 (.bool true)])))).seq (vX 10 5))).loop)).seq (vV [MV 18 0,O1 19 .slen 18,vN 20 .gtr 19 20,MV 4 20])))
theorem qCp:qK Tryz.prog 59 21 0 [RV.tmp 4] qDB:=fi Tryz.f59 [] qfA []
end
section
open Go Go.Proofs AF HY LN
namespace RC
theorem qCd(u:Un)(c:Int)(h:we):ACalls Tryz.prog 153 [.agg (unC u),.ip [.int .i64 c]] h (.bool (decide (u.frm<=c)&&decide (c<u.to))) h:=by
 by_cases g:u.frm<=c
 ·have k1:(u.frm<=c)=True:=eqt g;rw[dqt g,Bool.true_and];refine acO qrF ?_;simp (disch:=omega) only[qsN,unC,k1,go_sem]
  repeat' first|exact v7|with_reducible apply aiA|exact clz|fail
 ·have k1:(u.frm<=c)=False:=eqf g;rw[dqf g,Bool.false_and];refine acO qrF ?_;simp (disch:=omega) only[qsN,unC,k1,go_sem]
  repeat' first|exact v7|with_reducible apply aiA|exact clz|fail
theorem qEB(l:List Un)(c:Int)(k v:Nat)(h:we)(hk:qq k h=some (.mem v 3 [.int .i64 c]))(hl:l.length<=1000000000):
  ACalls Tryz.prog 65 [jI l,.fn (.func 153) [] [.op k v 0]] h (.int .i64 (fnU l c)) h:=by
 have hc:=qQ hk;unfold jI fnU;refine qex qzc l.length (λj=>unC (l.getD j default)) (λj=> .agg (unC (l.getD j default))) _ [] [.op k v 0] _ h (λi _=>⟨rfl,by simp[jZ,unC],rfl,rfl,rfl⟩) (λi _=> ?_) om;refine ACalls.borrow ?_ rfl;have e:([AV.agg (unC (l.getD i default))]++ [AV.op k v 0]).map (rei (λ_=>true) h 8)= [.agg (unC (l.getD i default)),.ip [.int .i64 c]]:=by
  simp only[lca,lna,List.map_cons,List.map_nil,rei_op,if_true,hc,ipOf_some,List.drop_zero,rei_agg];rfl
 rw[lna,e];exact qCd _ c _
def fnR(l:List Un)(c:Int):Int:=if c<0 then 0 else fnU l c
def fnE(c:Int):Int:=if c<0 then 2 else 0
theorem qCw(l:List Un)(c:Int)(h:we)(hl:l.length<=1000000000):ACalls Tryz.prog 76 [jI l,.int .i64 c] h (.tup [.int .i64 (fnR l c),.int .i64 (fnE c)]) h:=by
 unfold fnR fnE
 by_cases g:c<0
 ·have k1:(c<0)=True:=eqt g;rw[ipo g,ipo g];refine acO qzg ?_;simp (disch:=omega) only[qBR,k1,go_sem]
  repeat' first|exact v7|with_reducible apply aiA|exact clz|fail
 ·have k1:(c<0)=False:=eqf g;rw[ine g,ine g];have c1:=qEB l c h.length 1 (h++ [.mem 1 3 [.int .i64 c]]) (by rw[getO_app0];rfl) hl;refine acO qzg ?_;simp (disch:=omega) only[qBR,k1,go_sem]
  repeat' first|(refine cA (c1) flk ?_;simp (disch:=omega) only[go_sem])|exact v7|with_reducible apply aiA|exact clz|fail
end RC
end
