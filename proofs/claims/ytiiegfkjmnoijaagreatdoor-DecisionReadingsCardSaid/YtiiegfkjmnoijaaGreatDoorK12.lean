import Derived.Test.YtiiegfkjmnoijaaGreatDoorK10
import Derived.Test.YtiiegfkjmnoijaaGreatDoorK11
import Derived.Shelf.Slices.In.SortAlone
import Derived.Shelf.Slices.In.CompactI
import Derived.Test.YtiiegfkjmnoijaaGreatDoorProg
import Derived.Test.YtiiegfkjmnoijaaGreatDoorK9
import Derived.Sort.OwnSortedInts
import Derived.Test.YtiiegfkjmnoijaaGreatDoorK3
import Derived.Test.YtiiegfkjmnoijaaGreatDoorK5
import Derived.Test.YtiiegfkjmnoijaaGreatDoorK8
import Derived.Lib.IndexMore
import Derived.Lib.CountLaws
import Derived.Laws.Strings3
import Derived.Test.YtiiegfkjmnoijaaGreatDoorK7
import Derived.Shelf.Strings.BuilderX
import Derived.Shelf.RegionOpenPlain
import Derived.Lib.Strings
import Derived.Lib.Slices
import Derived.Lib.Walk
import Derived.Lib.Builder
import Derived.Lib.AppendStr
import Derived.Lib.UnsafeStr
import Derived.Lib.MakeNoZero
import Derived.WalkKit
import Derived.Laws.Externs
import Derived.RangeFuncBox
import Derived.Laws.Rows
set_option linter.all false
set_option maxHeartbeats 128000000
set_option maxRecDepth 100000
section
open Go Go.Proofs AF HY LN
namespace RC
theorem jc{α:Type}{L:List α}{a:α}{i:Nat}(h:i<L.length):L.getD i a∈L:=by
 rw[gdqA,zG h];exact List.getElem_mem h
theorem qbH{α:Type}{L:List α}{a b:α}{i:Nat}(h:i<L.length):(L.set i b).getD i a=b:=by
 rw[gdqA,List.getElem?_set,ipo rfl,ipo h];rfl
def bgn(c:UInt8):Bool:=decide (kind c=1)||decide (kind c=3)
theorem U6{c:UInt8}(h:bgn c=true):SX c=true:=by
 unfold bgn at h;unfold SX;rw[Bool.or_eq_true]at h ⊢;rcases h with h|h
 ·exact .inl h
 ·exact .inr (by rw[h];rfl)
def tkF(f:Int)(w:Str):Tk:=⟨w,[],[],0,f,[]⟩
structure Bs where
 done:List Tk
 opn:Bool
 fl:Int
 word:Str
 jn:Bool
def Bs.fin(b:Bs):List Tk:=b.done++if b.opn=true then [tkF b.fl b.word] else []
def Bs.out(b:Bs):List Tk:=b.done++if b.opn=true then [tkF b.fl []] else []
def jfl(j:Bool)(n:Nat):Int:=if j=true∧0<n then 16 else 0
def Bs.stp(b:Bs)(c:UInt8):Bs:=
 if b.opn=true∧SX c=true then ⟨b.done,true,b.fl,b.word++ [c],b.jn⟩
 else if bgn c=true then ⟨b.fin,true,jfl b.jn b.fin.length,[c],true⟩
 else if kind c=6 then ⟨b.fin,false,0,[],false⟩
 else ⟨b.fin++ [tkF (8+jfl b.jn b.fin.length) [c]],false,0,[],true⟩
def bs0:Bs:=⟨[],false,0,[],false⟩
def bsL(s:Str):Bs:=s.foldl Bs.stp bs0
theorem qeF(s:Str)(c:UInt8):bsL (s++ [c])=(bsL s).stp c:=by unfold bsL;rw[List.foldl_append];rfl
def tkN(t:Tk):Tk:=⟨t.text,t.text,t.page,t.line,t.flags,t.name⟩
def TA(s:Str):List Tk:=(bsL s).fin
def qaJ(s:Str):List Tk:=(TA s).map tkN
def qrQ(L:List Tk):Bool:=jo (λj=>decide (64<(L.getD j default).text.length)) L.length
def qfn(s:Str):Int:=if qrQ (TA s)=true then 4 else 0
def TkG(t:Tk):Prop:=t=tkF t.flags t.text∧(((t.flags=0∨t.flags=16)∧ ∃c r,t.text=c::r∧bgn c=true∧ ∀b∈r,SX b=true)∨((t.flags=8∨t.flags=24)∧ ∃c,t.text= [c]∧bgn c=false∧kind c≠6))
structure ql0 (s:Str) (b:Bs):Prop where
 cl:b.opn=false->b.word= []∧b.fl=0
 op:b.opn=true->TkG (tkF b.fl b.word)∧b.jn=true∧(b.fl=0∨b.fl=16)
 dn: ∀t∈b.done,TkG t
 len:b.fin.length<=s.length
 cat:(b.fin.map Tk.text).flatten=s.filter λc=> !decide (kind c=6)
theorem Bs.fin_ok{s:Str}{b:Bs}(h:ql0 s b): ∀t∈b.fin,TkG t:=by
 intro t ht;unfold Bs.fin at ht;rcases List.mem_append.1 ht with ht|ht
 ·exact h.dn t ht
 ·split at ht
  ·rename_i ho;rw[List.mem_singleton]at ht;subst ht;exact (h.op ho).1
  ·cases ht
theorem qjn{c:UInt8}(h:SX c=true):kind c≠6:=by
 unfold SX at h;simp only[Bool.or_eq_true,decide_eq_true_eq]at h;omega
theorem qc0(j:Bool)(n:Nat):jfl j n=0∨jfl j n=16:=by
 unfold jfl;split
 ·exact .inr rfl
 ·exact .inl rfl
theorem TL(s:Str)(c:UInt8):(s++ [c]).filter (λc=> !decide (kind c=6))=s.filter (λc=> !decide (kind c=6))++if kind c=6 then [] else [c]:=by
 rw[List.filter_append];congr 1
 by_cases h:kind c=6
 ·simp[h]
 ·simp[h]
theorem qyA{s:Str}{b:Bs}(h:ql0 s b)(c:UInt8):ql0 (s++ [c]) (b.stp c):=by
 have hf:=Bs.fin_ok h;have hl:=h.len;have hc:=h.cat;unfold Bs.stp;split
 ·rename_i g;obtain⟨g1,g2⟩:=g;obtain⟨⟨_,k1⟩,k2,k3⟩:=h.op g1;have kw: ∃e r,b.word=e::r∧bgn e=true∧ ∀x∈r,SX x=true:=by
   rcases k1 with⟨_,k⟩|⟨k,_⟩
   ·exact k
   ·exact absurd k (by have:(tkF b.fl b.word).flags=b.fl:=rfl;rw[this];omega)
  refine⟨λe=>(by cases e),λ_=>⟨⟨rfl,.inl ⟨k3,?_⟩⟩,k2,k3⟩,h.dn,?_,?_⟩
  ·obtain⟨e,r,e1,e2,e3⟩:=kw;refine⟨e,r++ [c],?_,e2,λx hx=> ?_⟩
   ·show b.word++ [c]=_;rw[e1];rfl
   ·rcases List.mem_append.1 hx with hx|hx
    ·exact e3 x hx
    ·rw[List.mem_singleton]at hx;subst hx;exact g2
  ·unfold Bs.fin at hl ⊢;simp only[g1,if_true,lap,lco,lnl]at hl ⊢;omega
  ·unfold Bs.fin at hc ⊢;rw[TL,ine (qjn g2),<-hc];simp[g1,tkF]
 rename_i g;split
 ·rename_i g2;have j:=qc0 b.jn b.fin.length;refine⟨λe=>(by cases e),λ_=>⟨⟨rfl,.inl ⟨j,c,[],rfl,g2,λx hx=>by cases hx⟩⟩,rfl,j⟩,hf,?_,?_⟩
  ·show (b.fin++ [_]).length<=_;simp only[lap,lco,lnl];omega
  ·show ((b.fin++ [tkF _ [c]]).map Tk.text).flatten=_;rw[TL,ine (qjn (U6 g2)),List.map_append,List.flatten_append,hc];rfl
 rename_i g2;have g2:bgn c=false:=by simpa using g2
 split
 ·rename_i g3;refine⟨λ_=>⟨rfl,rfl⟩,λe=>(by cases e),hf,?_,?_⟩
  ·show (b.fin++ []).length<=_;simp only[lap,lnl,lco];omega
  ·show ((b.fin++ []).map Tk.text).flatten=_;rw[lan,TL,ipo g3,hc,lan]
 ·rename_i g3;have j:=qc0 b.jn b.fin.length;refine⟨λ_=>⟨rfl,rfl⟩,λe=>(by cases e),λt ht=> ?_,?_,?_⟩
  ·rcases List.mem_append.1 ht with ht|ht
   ·exact hf t ht
   ·rw[List.mem_singleton]at ht;subst ht;refine⟨rfl,.inr ⟨?_,c,rfl,g2,g3⟩⟩;show 8+jfl b.jn b.fin.length=8∨8+jfl b.jn b.fin.length=24;omega
  ·show (b.fin++ [_]++ []).length<=_;simp only[lap,lnl,lco];omega
  ·show ((b.fin++ [tkF _ [c]]++ []).map Tk.text).flatten=_;rw[lan,TL,ine g3,List.map_append,List.flatten_append,hc];rfl
theorem qa4(s:Str):ql0 s (bsL s):=by
 have key: ∀n,n<=s.length->ql0 (s.take n) (bsL (s.take n)):=by
  intro n
  induction n with
  |zero=>intro _;exact⟨λ_=>⟨rfl,rfl⟩,λe=>(by cases e),λt ht=>(by cases ht),nlr _,rfl⟩
  |succ n ih=>
   intro hn;rw[List.take_add_one,zG hn];show ql0 (s.take n++ [s[n]]) (bsL (s.take n++ [s[n]]));rw[qeF];exact qyA (ih om) _
 have:=key s.length (nlr _)
 rwa [List.take_length]at this
theorem qfp(s:Str): ∀t∈TA s,TkG t:=Bs.fin_ok (qa4 s)
theorem qdr(s:Str):(TA s).length<=s.length:=(qa4 s).len
theorem qce(s:Str):(qaJ s).length<=s.length:=by unfold qaJ;rw[List.length_map];exact qdr s
theorem qo0(s:Str):((qaJ s).map Tk.text).flatten=s.filter λc=> !decide (kind c=6):=by
 unfold qaJ;rw[List.map_map];exact (qa4 s).cat
theorem TkG.ne{t:Tk}(h:TkG t):t.text≠ []:=by
 rcases h.2 with⟨_,c,r,e,_⟩|⟨_,c,e,_⟩<;>rw[e]<;>exact List.cons_ne_nil _ _
theorem qaB{L:List Str}{w:Str}(h:w∈L):w.length<=L.flatten.length:=by
 induction L with
 |nil=>cases h
 |cons a r ih=>
  rw[List.flatten_cons,lap];rcases List.mem_cons.1 h with rfl|h
  ·omega
  ·have:=ih h;omega
theorem qen(s:Str){t:Tk}(ht:t∈qaJ s): ∃u,TkG u∧t=tkN u∧u∈TA s:=by
 unfold qaJ at ht;obtain⟨u,hu,rfl⟩:=List.mem_map.1 ht;exact⟨u,qfp s u hu,rfl,hu⟩
theorem Ur{L:List Tk}:qrQ L=false↔ ∀t∈L,t.text.length<=64:=by
 unfold qrQ;rw[qp];constructor
 ·intro h t ht;obtain⟨j,hj,rfl⟩:=List.getElem_of_mem ht
  have:=of_decide_eq_false (h j hj)
  rw[gdqA,zG hj,Option.getD_some]at this;omega
 ·intro h j hj
  have:=h (L.getD j default) (by rw[gdqA,zG hj];exact List.getElem_mem hj)
  exact dqf om
theorem qsZ{s:Str}:qfn s=0↔ ∀t∈TA s,t.text.length<=64:=by
 unfold qfn;rw[<-Ur];cases qrQ (TA s)
 ·simp
 ·simp
def qg9(s:Str):Int:=if zR s≠0 then zR s else qfn s
def qp9(s:Str):List Str:=if qg9 s=0 then (qaJ s).map Tk.text else []
structure Dc where
 kind:Int
 sig:Str
 tok:Int
 txt:Str
instance:Inhabited Dc:=⟨⟨0,[],0,[]⟩⟩
def dcC(d:Dc):wg:= [.int .i64 d.kind,.str d.sig,.int .i64 d.tok,.str d.txt]
def kB(l:List Dc):AV:= .sl l.length λi=>dcC (l.getD i default)
theorem qiY(l:List Dc):(kB l).flag=true:=rfl
theorem qgL(l:List Dc):(kB l).strip=kB l:=rfl
theorem qoh{fz:Nat->Bool}{h:we}{n:Nat}(l:List Dc):rei fz h (n+1) (kB l)=kB l:=rfl
theorem qnc{fz:Nat->Bool}{h:we}{n:Nat}(l:List Dc):frz fz h (n+1) (kB l)=kB l:=rfl
attribute [go_sem] qiY qgL qoh qnc
def zC(x:Co)(g:Str):Int:=U0 (λj=>decide (g=x.sig.getD j [])) x.sig.length 0
def RQ(x:Co)(s:Nat)(t:Int):Int:=U0 (λk=>decide ((x.col.getD k []).getD s 0=t)) x.col.length 0
def kK(x:Co)(l:List Un)(o:Dc):Int:=fnU l (RQ x (zC x o.sig).toNat o.tok)
def tkB(x:Co)(o:Dc):Bool:=decide (0<=zC x o.sig)&&(decide (0<=o.tok)&&decide (o.tok<((x.tok.getD (zC x o.sig).toNat []).length:Int)))
def cjE(o:Dc):Int:=if o.kind=2 then (if qg9 o.txt≠0 then qg9 o.txt else if qp9 o.txt= [] then 5 else 0) else 0
def qaF(x:Co)(l:List Un)(o:Dc):Int:=
 if o.kind<1∨3<o.kind then 8 else if o.txt≠ []∧o.kind≠2 then 1 else if tkB x o=false then 6 else if kK x l o<0 then 20 else cjE o
def qo3(x:Co)(l:List Un)(o:Dc):Int:=if vaE x l≠0 then vaE x l else qaF x l o
def qyI(x:Co)(l:List Un)(o:Dc):Int:=if qo3 x l o=0 then kK x l o else 0
def Ut(x:Co)(l:List Un)(d:List Dc):Int:=if 256<d.length then 4 else TM (λi=>qaF x l (d.getD i default)) 0 d.length
theorem qdp{x:Co}{o:Dc}(h:tkB x o=true):0<=zC x o.sig∧(zC x o.sig).toNat<x.sig.length∧x.sig.getD (zC x o.sig).toNat []=o.sig∧0<=o.tok∧o.tok<((x.tok.getD (zC x o.sig).toNat []).length:Int):=by
 unfold tkB at h;rw[Bool.and_eq_true,Bool.and_eq_true,decide_eq_true_iff,decide_eq_true_iff,decide_eq_true_iff]at h;obtain⟨h1,h2,h3⟩:=h;rcases zJ (λj=>decide (o.sig=x.sig.getD j [])) x.sig.length with⟨i,g1,g2,_,g4⟩|⟨_,g2⟩
 ·have e:zC x o.sig=i:=g4;rw[e]at h1 h3 ⊢;exact⟨h1,g1,(of_decide_eq_true g2).symm,h2,h3⟩
 ·have e:zC x o.sig= -1:=g2;omega
theorem Tq{x:Co}{l:List Un}{o:Dc}(h:qaF x l o=0):1<=o.kind∧o.kind<=3∧(o.txt= []∨o.kind=2)∧tkB x o=true∧0<=kK x l o∧cjE o=0:=by
 unfold qaF at h;split at h
 ·cases h
 split at h
 ·cases h
 split at h
 ·cases h
 split at h
 ·cases h
 rename_i h1 h2 h3 h4;refine⟨om,om,?_,by simpa using h3,om,h⟩
 by_cases e:o.txt= []
 ·exact .inl e
 ·exact .inr (Classical.not_not.1 λhc=>h2 ⟨e,hc⟩)
theorem qeI{o:Dc}(h:cjE o=0)(hk:o.kind=2):zR o.txt=0∧qfn o.txt=0∧qaJ o.txt≠ []∧o.txt≠ []:=by
 unfold cjE at h;rw[ipo hk]at h;split at h
 ·rename_i e;exact absurd h e
 rename_i h1;have h1:=Classical.not_not.1 h1;split at h
 ·cases h
 rename_i h2;unfold qp9 at h2;rw[ipo h1]at h2;have h3:qaJ o.txt≠ []:=λe=>h2 (by rw[e];rfl)
 unfold qg9 at h1;split at h1
 ·rename_i e;exact absurd h1 e
 rename_i g;exact⟨Classical.not_not.1 g,h1,h3,λe=>h3 (by rw[e];rfl)⟩
structure Pc where
 t:Tk
 c:Int
instance:Inhabited Pc:=⟨⟨default,0⟩⟩
def pcB(x:Co)(s k:Nat):Bool:=decide (0<=(x.col.getD k []).getD s 0)
def pcT(x:Co)(s k:Nat):Pc:=⟨(x.tok.getD s []).getD ((x.col.getD k []).getD s 0).toNat default,(k:Int)⟩
def spk(x:Co)(s f:Nat):Nat->List Pc
 |0=> []
 |d+1=>spk x s f d++if pcB x s (f+d)=true then [pcT x s (f+d)] else []
structure Rw where
 p:Pc
 u:Int
 d:Int
instance:Inhabited Rw:=⟨⟨default,0,0⟩⟩
def qA8(f:Int):Bool:=f.toNat.testBit 2
def jnB(f:Int):Bool:=f.toNat.testBit 4
def qAy(b s:Str):Bool:=if km b=true then !km s&& !decide (s= [39]) else true
def mkW(pv:Option Str)(r:Rw):Wd:=⟨r.p.t.text,r.p.c,r.u,r.d,jnB r.p.t.flags&&(match pv with|none=>false|some b=>qAy b r.p.t.text),qA8 r.p.t.flags,r.p.t.name⟩
def qn2(L:List Rw)(i:Nat):Option Str:=if i=0 then none else some (L.getD (i-1) default).p.t.text
def bsW(L:List Rw):List Wd:=(List.range L.length).map λi=>mkW (qn2 L i) (L.getD i default)
theorem kX(L:List Rw):(bsW L).length=L.length:=by unfold bsW;simp
theorem qpp{L:List Rw}{i:Nat}(hi:i<L.length):(bsW L).getD i default=mkW (qn2 L i) (L.getD i default):=by
 unfold bsW;rw[gdqA,List.getElem?_map,List.getElem?_range hi];rfl
theorem qaw{α:Type}{L M:List α}{a:α}{i:Nat}(hi:i<L.length):(L++M).getD i a=L.getD i a:=by
 rw[gdqA,gdqA,List.getElem?_append_left hi]
theorem Uk{α:Type}{L M:List α}{a:α}{i:Nat}:(L++M).getD (L.length+i) a=M.getD i a:=by
 rw[gdqA,gdqA,List.getElem?_append_right om,Nat.add_sub_cancel_left]
theorem qmg(L:List Rw)(r:Rw):bsW (L++ [r])=bsW L++ [mkW (qn2 (L++ [r]) L.length) r]:=by
 unfold bsW;rw[lap,lco,lnl,Nat.zero_add,List.range_succ,List.map_append];congr 1
 ·refine List.map_congr_left λi hi=> ?_
  rw[List.mem_range]at hi;have e1:(L++ [r]).getD i default=L.getD i default:=qaw hi;have e2:qn2 (L++ [r]) i=qn2 L i:=by
   unfold qn2;split
   ·rfl
   ·rw[qaw om]
  rw[e1,e2]
 ·have e1:(L++ [r]).getD L.length default=r:=by
   have:=Uk (L:=L) (M:= [r]) (a:=default) (i:=0)
   rw[Nat.add_zero]at this;rw[this];rfl
  rw[List.map_cons,List.map_nil,e1]
theorem qkf(L:List Rw)(r:Rw):qn2 (L++ [r]) L.length=if L.length=0 then none else some ((bsW L).getD (L.length-1) default).text:=by
 unfold qn2;split
 ·rfl
 ·rw[qaw om,qpp om];rfl
def Sj(x:Co)(l:List Un)(d:List Dc)(k:Nat):Nat->Int
 |0=> -1
 |n+1=>if kK x l (d.getD n default)=k then (n:Int) else Sj x l d k n
def frN(l:List Un)(k:Nat):Nat:=(l.getD k default).frm.toNat
def toN(l:List Un)(k:Nat):Nat:=(l.getD k default).to.toNat
def ju(l:List Un)(k:Nat):Nat:=if k=0 then 0 else toN l (k-1)
def qg8(x:Co)(l:List Un)(k:Nat)(o:Dc):List Pc:=
 if o.kind=1 then spk x (zC x o.sig).toNat (frN l k) (toN l k-frN l k) else if o.kind=2 then (qaJ o.txt).map (λt=>⟨t,(l.getD k default).frm⟩) else []
def rwM(ps:List Pc)(u d:Int):List Rw:=ps.map λp=>⟨p,u,d⟩
def rwC(x:Co)(s f t:Nat):List Rw:=rwM (spk x s f (t-f)) (-1) (-1)
def rwU(x:Co)(l:List Un)(d:List Dc)(s k:Nat):List Rw:=
 if Sj x l d k d.length<0 then rwM (spk x s (frN l k) (toN l k-frN l k)) k (-1)
 else rwM (qg8 x l k (d.getD (Sj x l d k d.length).toNat default)) k (Sj x l d k d.length)
def rwL(x:Co)(l:List Un)(d:List Dc)(s:Nat):Nat->List Rw
 |0=> []
 |k+1=>rwL x l d s k++(rwC x s (ju l k) (frN l k)++rwU x l d s k)
def rwA(x:Co)(l:List Un)(d:List Dc)(s:Nat):List Rw:=rwL x l d s l.length++rwC x s (ju l l.length) x.col.length
def esE(x:Co)(l:List Un)(d:List Dc)(s:Int):Int:=
 if vaE x l≠0 then vaE x l else if s<0∨(x.sig.length:Int)<=s then 2 else if Ut x l d≠0 then Ut x l d else if 1024<(rwA x l d s.toNat).length then 4 else 0
def esR(x:Co)(l:List Un)(d:List Dc)(s:Int):List Wd:=if esE x l d s=0 then bsW (rwA x l d s.toNat) else []
theorem qad(x:Co)(l:List Un)(d:List Dc)(k:Nat): ∀n,-1<=Sj x l d k n∧Sj x l d k n<n:=by
 intro n
 induction n with
 |zero=>exact⟨Int.le_refl _,by unfold Sj;omega⟩
 |succ n ih=>
  unfold Sj;split
  ·omega
  ·omega
theorem qjA{x:Co}{l:List Un}{d:List Dc}{k:Nat}: ∀ {n j:Nat},Sj x l d k n=j->kK x l (d.getD j default)=k:=by
 intro n
 induction n with
 |zero=>intro j h;unfold Sj at h;omega
 |succ n ih=>
  intro j h;unfold Sj at h;split at h
  ·rename_i g;have e:n=j:=by omega
   rw[<-e];exact g
  ·exact ih h
theorem qca(x:Co)(s f:Nat): ∀d,(spk x s f d).length<=d:=by
 intro d
 induction d with
 |zero=>exact nlr _
 |succ d ih=>
  unfold spk;rw[lap];split
  ·simp only[lco,lnl];omega
  ·simp only[lnl];omega
theorem qdT{x:Co}{s f:Nat}{p:Pc}: ∀ {d:Nat},p∈spk x s f d↔ ∃k,f<=k∧k<f+d∧pcB x s k=true∧p=pcT x s k:=by
 intro d
 induction d with
 |zero=>
  constructor
  ·intro h;cases h
  ·rintro⟨k,h1,h2,_⟩;omega
 |succ d ih=>
  unfold spk;rw[List.mem_append,ih];constructor
  ·rintro (⟨k,h1,h2,h3⟩|h)
   ·exact⟨k,h1,om,h3⟩
   ·split at h
    ·rename_i g;rw[List.mem_singleton]at h;exact⟨f+d,om,om,g,h⟩
    ·cases h
  ·rintro⟨k,h1,h2,h3,h4⟩
   by_cases e:k<f+d
   ·exact .inl ⟨k,h1,e,h3,h4⟩
   ·have e:k=f+d:=by omega
    subst e;rw[ipo h3];exact .inr (List.mem_singleton.2 h4)
theorem qfg(x:Co)(s f:Nat): ∀d,(spk x s f d).map (λp=>p.t.text)=rdG x s f d:=by
 intro d
 induction d with
 |zero=>rfl
 |succ d ih=>
  unfold spk rdG;rw[List.map_append,ih];congr 1;unfold pcB clT
  by_cases h:(x.col.getD (f+d) []).getD s 0<0
  ·rw[ine (by simpa using h),ipo h];rfl
  ·rw[ipo (by simpa using h),ine h];rfl
theorem jD(ps:List Pc)(u d:Int):(rwM ps u d).length=ps.length:=by unfold rwM;rw[List.length_map]
theorem jL{ps:List Pc}{u d:Int}{r:Rw}:r∈rwM ps u d↔r.p∈ps∧r.u=u∧r.d=d:=by
 unfold rwM;rw[List.mem_map];constructor
 ·rintro⟨p,hp,rfl⟩;exact⟨hp,rfl,rfl⟩
 ·rintro⟨h1,h2,h3⟩;exact⟨r.p,h1,by cases r;cases h2;cases h3;rfl⟩
def qll(b:List Wd):List Str:=b.map (·.text)
theorem qyB{t:Tk}(h:tkE t=0):txB t=true:=by
 unfold tkE at h;split at h
 ·cases h
 split at h
 ·cases h
 split at h
 ·cases h
 rename_i h3;simpa using h3
end RC
end
section
namespace Go.Proofs
open Go.Shelf
end Go.Proofs
end
section
open Go Go.Proofs Go.Sort AF HY LN
namespace RC
end RC
end
section
open Go Go.Proofs AF HY LN
namespace RC
theorem qbC{a b:En}:qat a b=false↔a.to<=b.frm∧ ¬(a.frm=b.frm∧a.to=b.to):=by
 unfold qat;rw[Bool.or_eq_false_iff,decide_eq_false_iff_not,Bool.and_eq_false_iff,decide_eq_false_iff_not,decide_eq_false_iff_not];omega
theorem qAQ{L:List En}(hs:L.Pairwise λa b=>qeB b a=false)(hr: ∀e∈L,e.frm<=e.to)(hc:SA L=false):L.Pairwise λa b=>qat a b=false:=by
 induction L with
 |nil=>exact List.Pairwise.nil
 |cons a r ih=>
  have h0:=qk3 hs hc;obtain⟨h1,h2⟩:=List.pairwise_cons.1 hs;have h3:=ih h2 (λe he=>hr e (List.mem_cons_of_mem _ he)) (qa9 hc);refine List.pairwise_cons.2 ⟨?_,h3⟩;cases r with
  |nil=>intro z hz;cases hz
  |cons b r=>
   have hab:qat a b=false:=by
    rw[SA,Bool.or_eq_false_iff]at hc;exact hc.1
   intro z hz;have g0:=TD.1 ((List.pairwise_cons.1 h0).1 z hz);rcases List.mem_cons.1 hz with rfl|hz'
   ·exact hab
   ·have g1:=qbC.1 ((List.pairwise_cons.1 h3).1 z hz');have g2:=qbC.1 hab;have g3:=hr b (by simp);rw[qbC];omega
theorem qeJ: ∀ {L:List En},(L.Pairwise λa b=>qat a b=false)->SA L=false
 | [],_=>rfl
 | [_],_=>rfl
 |a::b::r,h=>by
  obtain⟨h1,h2⟩:=List.pairwise_cons.1 h;rw[SA,h1 b (by simp),qeJ h2];rfl
theorem qgf(names:List Str)(gs:List Gr)(l:List En)(src:Int)(p:En->Bool):ofE names gs (l.filter p) src=(ofE names gs l src).filter p:=by
 have h:=qcP qeD qeC p l [] List.Pairwise.nil;unfold ofE qtZ;rw[List.filter_nil]at h;rw[<-h,List.filter_reverse,List.filter_reverse,List.filter_reverse,List.filter_filter,List.filter_filter];congr 2;funext x;exact Bool.and_comm _ _
theorem qAM{names:List Str}{gs:List Gr}{t:List Str}{l:List En}(h:qtM names gs t l){s:Nat}(hs:s<names.length):(ofE names gs l (s:Int)).Pairwise λa b=>qat a b=false:=by
 refine qAQ (qgg names gs l s) (λe he=> ?_) (S5 h.cl hs);have h1:e∈qtZ l:=(List.mem_filter.1 he).1;have h2:=qiA.1 (h.ck e ((qdm l).subset h1));exact h2.rng.2.1
theorem qtM.filter{names:List Str}{gs:List Gr}{t:List Str}{l:List En}(h:qtM names gs t l)(p:En->Bool):qtM names gs t (l.filter p):=
 ⟨h.sg,Nat.le_trans (List.length_filter_le _ _) h.n,λe he=>h.ck e ((List.mem_filter.1 he).1),qp.2 λs hs=>by
  rw[qgf]
  exact qeJ (List.Pairwise.filter _ (qAM h hs))⟩
end RC
end
section
open Go Go.Proofs AF
end
section
open Go Go.Proofs AF HY LN
namespace RC
end RC
end
section
namespace Go.Proofs
open Go.Shelf Go.RowKit Go.Lib
set_option maxHeartbeats 1000000 in
set_option maxRecDepth 100000 in
theorem qcK(s:ByteArray)(c:UInt8)(w:World):
  Calls Tryz.prog 163 #[.string s,.string ⟨#[c]⟩] w λe w'=>e= .returned (.int .i64 (Lib.countByte s.data.toList c))∧w'=w:=by
 go_enter Tryz.func163,Tryz.ntmps163
 go_wp2
 rw[run_callFunc_extern Tryz.func215 (by kernel_rfl) (by kernel_rfl) (by kernel_rfl) (e:=Extern.BytealgCount.count) (by kernel_rfl),Lib.run_countString];simp only[Result.andThen];rw[Oper.upon_value]
 go_wp2
 go_ret
 exact⟨rfl,rfl⟩
set_option maxHeartbeats 2000000 in
set_option maxRecDepth 100000 in
theorem qjx(s:ByteArray)(c:UInt8)(w:World):
  Calls Tryz.prog 162 #[.string s,.string ⟨#[c]⟩] w λe w'=>e= .returned (.int .i64 (Lib.indexByte s.data.toList c))∧w'=w:=by
 have e95: ∀args w,(callFunc 210 args).run Tryz.prog w= .ok (.enter 210 args) w:=enters_of Tryz.func210 (by kernel_rfl) rfl
 go_enter Tryz.func162,Tryz.ntmps162
 go_wp2_with (go_at_fn 210;refine (qeT _ _ _).mono ?_;rintro e w' ⟨rfl,rfl⟩)
 ·have h:([c]==s.toList)=true:=by assumption
  go_ret
  refine⟨?_,rfl⟩;have e:s.data.toList= [c]:=by rw[<-Lib.toList_data];exact (beq_iff_eq.1 h).symm
  rw[e];simp[Lib.indexByte]
 ·go_ret
  exact⟨rfl,rfl⟩
set_option maxHeartbeats 1000000 in
theorem qnu(s:ByteArray)(c:UInt8)(w:World):
  Calls Tryz.prog 120 #[.string s,.string ⟨#[c]⟩] w λe w'=>e= .returned (.int .i64 (Lib.indexByte s.data.toList c))∧w'=w:=by
 have e114: ∀args w,(callFunc 162 args).run Tryz.prog w= .ok (.enter 162 args) w:=enters_of Tryz.func162 (by kernel_rfl) rfl
 go_enter Tryz.func120,Tryz.ntmps120
 go_wp2_with (go_at_fn 162;refine (qjx _ _ _).mono ?_;rintro e w' ⟨rfl,rfl⟩)
 go_ret
 exact⟨rfl,rfl⟩
end Go.Proofs
end
section
open Go Go.Proofs AF HY
namespace HY
def cutAt(c:UInt8)(s:List UInt8):Nat:=(s.takeWhile (· !=c)).length
theorem cutAt_cons(c b:UInt8)(s:List UInt8):cutAt c (b::s)=if b=c then 0 else cutAt c s+1:=by
 unfold cutAt;rw[List.takeWhile_cons]
 by_cases e:b=c
 ·simp[e]
 ·simp[e]
theorem index_cut(c:UInt8): ∀(s:List UInt8),0<s.count c->Go.Lib.indexByte s c=cutAt c s:=by
 intro s
 induction s with
 |nil=>intro h;simp at h
 |cons b s ih=>
  intro h;unfold Go.Lib.indexByte;rw[cutAt_cons]
  by_cases e:b=c
  ·simp[e]
  ·rw[List.count_cons,ine (by simpa using e)]at h
   have:=ih om
   rw[ine (by simpa using e),ine e,this,ine (by simp<;>omega)];rfl
theorem cutAt_lt(c:UInt8): ∀(s:List UInt8),0<s.count c->cutAt c s<s.length:=by
 intro s
 induction s with
 |nil=>intro h;simp at h
 |cons b s ih=>
  intro h;rw[cutAt_cons]
  by_cases e:b=c
  ·simp[e]
  ·rw[List.count_cons,ine (by simpa using e)]at h
   have:=ih om
   rw[ine e,lco];omega
theorem count_cut(c:UInt8): ∀(s:List UInt8),0<s.count c->(s.drop (cutAt c s+1)).count c=s.count c-1:=by
 intro s
 induction s with
 |nil=>intro h;simp at h
 |cons b s ih=>
  intro h;rw[cutAt_cons]
  by_cases e:b=c
  ·simp[e]
  ·rw[List.count_cons,ine (by simpa using e)]at h
   have:=ih om
   rw[ine e,List.drop_succ_cons,this,List.count_cons,ine (by simpa using e)];rfl
end HY
end
section
open Go Go.Proofs AF HY LN
namespace HY
end HY
namespace RC
end RC
end
section
open Go Go.Proofs AF HY LN
namespace RC
deriving instance DecidableEq for Va
deriving instance DecidableEq for En
def tkS(s:Str):Tk:=⟨s,s,[],0,0,[]⟩
def U2:Str:= [100,101,117,115]
def qtX:Str:= [101,115,116]
def R7:Str:= [98,111,110,117,115]
def xCo:Co:=⟨[97],[[65],[66]],[[tkS U2,tkS qtX,tkS R7],[tkS U2,tkS R7]],[[0,0],[1,-1],[2,1]]⟩
def xUn:List Un:= [⟨1,2,[⟨[qtX],[0]⟩,⟨[],[1]⟩]⟩]
end RC
end
section
namespace AF
open Go
end AF
end
section
open Go Go.Proofs AF HY LN
namespace RC
theorem il2{f g:Nat->wg}(h0:f 0=g 0)(h1:f 1=g 1):ILe (.sl 2 f) (.sl 2 g):=ILe.sl_eq λi hi=>by
 match i,hi with
 |0,_=>exact h0
 |1,_=>exact h1
 |n+2,hi=>exact absurd hi om
theorem il3{f g:Nat->wg}(h0:f 0=g 0)(h1:f 1=g 1)(h2:f 2=g 2):ILe (.sl 3 f) (.sl 3 g):=ILe.sl_eq λi hi=>by
 match i,hi with
 |0,_=>exact h0
 |1,_=>exact h1
 |2,_=>exact h2
 |n+3,hi=>exact absurd hi om
theorem vl2{f g:Nat->wg}(h0:TB (f 0) (g 0))(h1:TB (f 1) (g 1)):VLe (.sl 2 f) (.sl 2 g):=VLe.sl λi hi=>by
 match i,hi with
 |0,_=>exact h0
 |1,_=>exact h1
 |n+2,hi=>exact absurd hi om
theorem vl3{f g:Nat->wg}(h0:TB (f 0) (g 0))(h1:TB (f 1) (g 1))(h2:TB (f 2) (g 2)):VLe (.sl 3 f) (.sl 3 g):=VLe.sl λi hi=>by
 match i,hi with
 |0,_=>exact h0
 |1,_=>exact h1
 |2,_=>exact h2
 |n+3,hi=>exact absurd hi om
theorem ie{a b:AV}(h:a=b):ILe a b:=by rw[h];exact ILe.refl _
section
variable {q : En -> Bool} {L : List En} {J : Nat}
end
section
variable {k v w : Nat} {h l : we} {ty : TypeId} {cs : wg}
end
theorem qtL(b:List Wd)(h:we)(hn:b.length<=1000000):ACalls Tryz.prog 37 [Sl b] h (strs (qll b)) h:=by
 refine acO qAc ?_;simp (disch:=omega) only[qBp,Sl,go_sem];refine qr (T:=λs:Nat×Nat×AObj×AObj=>qX 19 [(6,Sl b),(7,.int .i64 b.length),(8,.int .i64 s.1),(3,.osl (h.length+1) s.2.1 1 0 s.1)])
  (H:=λs=>h++ [.emp 1,ze s.2.1 9 (kv (qll (b.take s.1))),s.2.2.1,s.2.2.2,.emp 0])
  (inv:=λs=>s.1<=b.length∧qI [s.2.2.1] 0=true∧qI [s.2.2.2] 0=true) (m:=λs=>b.length-s.1) (0,1,.emp 0,.emp 0) ⟨nzl _,rfl,rfl⟩ (Wk.temps ?_) ?_
 ·(simp only[Sl,go_sem,qg,qc,qa,qf];try exact wa)
 rintro⟨i,v,O1,O2⟩ ⟨i1,i2,i3⟩ K hK;simp only at i1 i2 i3 hK;have i2': ∀m,qI (O1::m) 0=true:=λ_=>i2
 have i3': ∀m,qI (O2::m) 0=true:=λ_=>i3
 have eL:(qll (b.take i)).length=i:=by unfold qll;rw[List.length_map,List.length_take];omega
 by_cases hi:i<b.length
 ·have k1:((i:Int)<b.length)=True:=wh;have hS:qll (b.take (i+1))=qll (b.take i)++ [(b.getD i default).text]:=by
   unfold qll;rw[List.take_add_one,zG hi,gdqA,zG hi,List.map_append];rfl
  obtain⟨L,hL⟩:=wc (qll (b.take i))
  rw[<-hL]at hS eL ⊢;obtain⟨w,hw⟩:=wc (b.getD i default)
  have ew:=hw.symm;rw[ew]at hS;have eC:=R1 L;have eTk:List.take i (kv L)=kv L:=ltl om;simp (disch:=omega) only[Sl,wdC,k1,ew,i2',i3',eC,eL,eTk,Nat.mul_one,go_sem]
  repeat' first|with_reducible apply aiA|exact clz|fail
  have eA:kv L++ [AV.str w.text]=kv (L++ [w.text]):=by simp[kv]
  have eD:(AV.str w.text::List.drop 1 (zS [AV.str []] 1))= [AV.str w.text]:=rfl;rw[eA,eD];refine hK _ _ (i+1,v+1,.mem (qq (some O1)+1) 36 (wdC w),.mem (qq (some O2)+1) 9 [.str w.text]) ⟨hi,rfl,rfl⟩ (by simp only;omega) ?_;simp only[hS,wdC];refine Wk.temps ?_
  (simp only[Sl,wdC,go_sem,qg,qc,qa,qf];try (repeat' first|(with_reducible apply aiA)|(apply qh;omega)|(apply qd;rfl)|exact qi))
 have k1:((i:Int)<b.length)=False:=wi;obtain rfl:i=b.length:=by omega
 rw[List.take_length]at eL ⊢;simp (disch:=omega) only[k1,go_sem]
 repeat' first|(apply qb;exact rvk;simp only[go_sem])
 exact qaj (λ_=>rfl) eL.symm
def qCf(names:List Str)(gs:List Gr)(p:Un)(v:Va):Bool:=decide (qfT names gs v.sigla=0)&&jo (λj=>decide ((p.rds.getD j default).words=v.words)&&decide ((p.rds.getD j default).src=qaO names gs v.sigla)) p.rds.length
def qBR(p:Un)(w:List Str):Nat->List Int
 |0=> []
 |j+1=>if (p.rds.getD j default).words=w then (p.rds.getD j default).src else qBR p w j
def okB(names:List Str)(gs:List Gr)(w:List Str)(p:Un)(e:En):Bool:=
 if jo (λj=> !qCf names gs p (e.vars.getD j default)) e.vars.length=true then false else if e.pos=false then decide (e.sup.length=0) else
  decide (qfT names gs e.sup=0)&&decide (qaO names gs e.sup=qBR p (qlY w e.frm.toNat e.to.toNat) p.rds.length)
def jv(L:List Wd):wg:=L.flatMap wdC
theorem qev(e:Wd):(wdC e).length=7:=rfl
theorem qfw(L:List Wd):(jv L).length=L.length*7:=by
 unfold jv
 induction L with
 |nil=>rfl
 |cons a L ih=>rw[List.flatMap_cons,lap,ih,lco,qev];omega
theorem qpd(A B:List Wd):jv (A++B)=jv A++jv B:=by simp[jv]
theorem qpe(a:Wd):jv [a]=wdC a:=by simp[jv]
theorem qlQ(L:List Wd): ∀i,(jv L).drop (i*7)=jv (L.drop i):=by
 induction L with
 |nil=>intro i;simp[jv]
 |cons a L ih=>
  intro i;cases i with
  |zero=>simp
  |succ i=>
   have e:jv (a::L)=wdC a++jv L:=rfl;rw[List.drop_succ_cons,e,List.drop_append,qev,show (i+1)*7-7=i*7 by omega,ih];rw[List.drop_eq_nil_of_le (by rw[qev];omega)];rfl
theorem qfv{L:List Wd}{i:Nat}(hi:i<L.length):((jv L).drop (i*7)).take 7=wdC (L.getD i default):=by
 rw[qlQ,List.drop_eq_getElem_cons hi,gdqA,zG hi];rfl
theorem qam(L:List Wd)(n:Nat): ∀c∈jv L,qR n c=true:=by
 intro c hc;unfold jv at hc;obtain⟨x,_,hx⟩:=List.mem_flatMap.1 hc;simp only[wdC,List.mem_cons,List.not_mem_nil,or_false]at hx;rcases hx with rfl|rfl|rfl|rfl|rfl|rfl|rfl<;>rfl
section
variable {q : Wd -> Bool} {L : List Wd} {J : Nat}
end
theorem qCH(b:List Wd)(k:Int)(h:we)(hn:b.length<=1000000):ACalls Tryz.prog 101 [Sl b,.int .i64 k] h (strs (owG b k b.length)) h:=by
 refine acO qvS ?_;simp (disch:=omega) only[quh,Sl,go_sem];refine qr (T:=λs:Nat×Nat×AObj×AObj=>qX 25 [(1,.int .i64 k),(8,Sl b),(9,.int .i64 b.length),(10,.int .i64 s.1),(5,.osl (h.length+1) s.2.1 1 0 (owG b k s.1).length)])
  (H:=λs=>h++ [.emp 1,ze s.2.1 9 (kv (owG b k s.1)),s.2.2.1,s.2.2.2,.emp 0])
  (inv:=λs=>s.1<=b.length∧qI [s.2.2.1] 0=true∧qI [s.2.2.2] 0=true) (m:=λs=>b.length-s.1) (0,1,.emp 0,.emp 0) ⟨nzl _,rfl,rfl⟩ (Wk.temps ?_) ?_
 ·(simp only[Sl,owG,go_sem,qg,qc,qa,qf];try exact wa)
 rintro⟨i,v,O1,O2⟩ ⟨i1,i2,i3⟩ K hK;simp only at i1 i2 i3 hK;have i2': ∀m,qI (O1::m) 0=true:=λ_=>i2
 have i3': ∀m,qI (O2::m) 0=true:=λ_=>i3
 have ol: ∀n,(owG b k n).length<=n:=by
  intro n
  induction n with
  |zero=>exact nlr _
  |succ n ih=>
   unfold owG;rw[lap];split
   ·simp only[lco,lnl];omega
   ·simp only[lnl];omega
 have hol:=ol i
 by_cases hi:i<b.length
 ·have k1:((i:Int)<b.length)=True:=wh;have hS:owG b k (i+1)=owG b k i++if (b.getD i default).unit=k then [(b.getD i default).text] else []:=rfl
  obtain⟨L,hL⟩:=wc (owG b k i)
  rw[<-hL]at hS hol ⊢;obtain⟨w,hw⟩:=wc (b.getD i default)
  have ew:=hw.symm;rw[ew]at hS;have eC:=R1 L;have eTk:List.take L.length (kv L)=kv L:=ltl om
  by_cases g:w.unit=k
  ·have q1:(w.unit=k)=True:=eqt g;rw[ipo g]at hS;simp (disch:=omega) only[Sl,wdC,k1,ew,i2',i3',q1,eC,eTk,Nat.mul_one,go_sem]
   repeat' first|with_reducible apply aiA|exact clz|fail
   have eA:kv L++ [AV.str w.text]=kv (L++ [w.text]):=by simp[kv]
   have eD:(AV.str w.text::List.drop 1 (zS [AV.str []] 1))= [AV.str w.text]:=rfl;rw[eA,eD];refine hK _ _ (i+1,v+1,.mem (qq (some O1)+1) 36 (wdC w),.mem (qq (some O2)+1) 9 [.str w.text]) ⟨hi,rfl,rfl⟩ (by simp only;omega) ?_;simp only[hS,wdC,lap,lco,lnl];refine Wk.temps ?_
   (simp only[Sl,wdC,go_sem,qg,qc,qa,qf];try (repeat' first|(with_reducible apply aiA)|(apply qh;omega)|(apply qd;rfl)|exact qi))
  ·have q1:(w.unit=k)=False:=eqf g;rw[ine g,lan]at hS;simp (disch:=omega) only[Sl,wdC,k1,ew,i2',i3',q1,go_sem]
   repeat' first|with_reducible apply aiA|exact clz|fail
   refine hK _ _ (i+1,v,.mem (qq (some O1)+1) 36 (wdC w),O2) ⟨hi,rfl,i3⟩ (by simp only;omega) ?_;simp only[hS,wdC];refine Wk.temps ?_
   (simp only[Sl,wdC,go_sem,qg,qc,qa,qf];try (repeat' first|(with_reducible apply aiA)|(apply qh;omega)|(apply qd;rfl)|exact qi))
 have k1:((i:Int)<b.length)=False:=wi;obtain rfl:i=b.length:=by omega
 simp (disch:=omega) only[k1,go_sem]
 repeat' first|(apply qb;exact rvk;simp only[go_sem])
 exact qaj (λ_=>rfl) rfl
theorem qB6(x:Co)(l:List Un)(h:we)(hz:qaN x)(hu:qdB l)(hp:kJ SG h)(h1:coE x=0)(h2:vaE x l=0):ACalls Tryz.prog 75 [.agg (coC x),zM l] h (.int .i64 0) h:=by
 have c1:=λl'=>coP x (h++l') hz (hp.app l')
 have c2:=λl'=>vaP x l (h++l') hz hu (hp.app l')
 simp only[h1]at c1;simp only[h2]at c2;unfold coC at c1 c2;refine acO qm8 ?_;simp (disch:=omega) only[qvt,coC,go_sem]
 repeat' first|((first|refine cA (c1 _) ?_ ?_|refine cA (c2 _) ?_ ?_);exact flk;simp (disch:=omega) only[go_sem])|exact v7|fail
theorem rdD(x:Co)(l:List Un)(b:List Wd)(u:Nat)(h:we)(hz:qaN x)(hu:qdB l)(hb:b.length<=1000000)(hp:kJ SG h)(h1:coE x=0)(h2:vaE x l=0)(hul:u<l.length):ACalls Tryz.prog 52 [.agg (coC x),zM l,Sl b,.int .i64 (u:Int)] h (.tup [strs (owG b u b.length),.int .i64 0]) h:=by
 have c1:=λl'=>qB6 x l (h++l') hz hu (hp.app l') h1 h2
 have c2:=λh=>qCH b (u:Int) h hb
 have hn:=hu.n;have zu: ∀g,valL g .len [zM l]= .int .i64 l.length:=λ_=>rfl
 have zv: ∀g,okL g .len [zM l]=True:=λ_=>eqt trivial
 have k1:((u:Int)<0)=False:=wi;have k2:((l.length:Int)<=u)=False:=wi;unfold coC at c1;refine acO qAf ?_;simp (disch:=omega) only[qBr,coC,go_sem]
 repeat' first|((first|refine cA (c1 _) ?_ ?_|refine cA (c2 _) ?_ ?_);exact flk;simp (disch:=omega) only[zu,zv,k1,k2,go_sem])|exact v7|fail
end RC
end
section
open Go Go.Proofs AF
def zI:List Nat:= []
def quY:C:=
 (vS [⟨some 2,none,.alloc 0 33 [i6 0],[]⟩] (vS [⟨some 3,none,.alloc 1 3 [i6 0],[]⟩,⟨none,none,.store 1,[.t 3,.c (i6 4096)]⟩] (vS [O1 8 (.mkfn (Fn.func 275) 0) 3,⟨some
 4,none,.alloc 2 32 [.nilfn],[]⟩,ST 1 4 8] ((vS [MV 9 0,O1 10 (.call 276 true) 9] (C.block 0 (C.range (.t 10) [11] (vW [⟨some 5,none,.alloc 3 303 [i6 0,.str [],i6 0,.nl,i6
 0,.bool false],[]⟩,ST 6 5 11]) (C.block 1 (vS [LD 12 4,O1 13 .callv 12,O1 14 (.un UnOp.not) 13,MV 15 14,vZ 16 15 4 5,v6 17 15 16,vR 18 15 (.bin .geq) 17 (i6 16),vQ 19 15 18,P1
 20 19 true (.fldA 0) 5,P1 21 19 true (.fldA 3) 20,P1 22 19 true (.load none) 21,P1 23 19 true .len 22,PC 24 19 true (.bin .gtr) 23 (i6 0),QF 25 15 false 19 24,PT 26 15 25] (vT
 26 (vV [⟨none,none,.store 1,[.t 2,.c (i6 4)]⟩]))))))).seq ((vS [MV 27 0,O1 28 (.call 276 true) 27] (C.block 2 (C.range (.t 28) [29] (vW [⟨some 6,none,.alloc 4 303 [i6 0,.str
 [],i6 0,.nl,i6 0,.bool false],[]⟩,ST 6 6 29]) (C.block 3 (vS [O1 30 (.load (some 6)) 6,O1 31 (.call 277 true) 30,MV 7 31] (vS [MV 32 7,vN 33 .neq 32 0] (vT 33 (vV [MV 34 7,ST 1
 2 34])))))))).seq ((vS [MV 35 0,O1 36 (.call 278 true) 35,O1 37 .slen 36,vN 38 .gtr 37 65536] (vT 38 (vV [⟨none,none,.store 1,[.t 2,.c (i6 4)]⟩]))).seq (vV [⟨none,none,.store
 1,[.t 2,.c (i6 0)]⟩])))))))
theorem qwD:qJ Tryz.prog 240 39 5 [RV.cell 2 none] quY:=fi Tryz.f240 [2,3,4,5,6] zI []
def qu8:C:=
 (vS [MC 1 (.bool false)] (vS [LD 2 0,vN 3 .sub 2 1,ST 1 0 3] (vV [LD 4 0,vN 5 .geq 4 0,MV 1 5])))
theorem qwO:qJ Tryz.prog 275 6 0 [RV.tmp 1] qu8:=fi Tryz.f275 [] zI []
def qu9:C:=
 (vS [O1 1 (.box 0 196) 0,MC 2 .nilfn] (vV [O1 3 (.mkfn (Fn.func 302) 0) 1,MV 2 3]))
theorem qwP:qJ Tryz.prog 276 4 1 [RV.tmp 2] qu9:=fi Tryz.f276 [1] zI []
def qvh:C:=
 (vS [O1 2 (.box 0 321) 0] (vS [⟨some 3,none,.alloc 1 322 [.nilfn],[]⟩] (vS [O2 4 (.mkfn (Fn.func 303) 0) 2 3,ST 1 3 4] (vW [LD 5 3,LD 6 1,ON 7 .callv [.t 5,.t 6,.c (i6 0)]]))))
theorem qwY:qJ Tryz.prog 302 8 2 [] qvh:=fi Tryz.f302 [2,3] zI []
def qqJ:C:=
 (vS [MC 6 (.bool false)] (vS [MC 7 (.bool false)] ((vS [MV 10 0,O1 11 .len 10,vM 12 0] (C.block 0 (vS [BI 13 .lss 12 11] ((vU 13 0).seq ((C.block 1 (vS [O2 14 (.idxA 4) 10 12,O1
 15 (.load (some 4)) 14,⟨some 9,none,.alloc 0 198 [i6 0,.str [],i6 0,.nl],[]⟩,ST 4 9 15] ((vS [LD 16 2,O1 17 (.load (some 4)) 9,MV 18 1,MV 19 7,⟨some 20,none,.build [i6 0,.str
 [],i6 0,.nl,i6 0,.bool false] [(0,4),(4,1),(5,1)],[.t 17,.t 18,.t 19]⟩,O2 21 .callv 16 20,O1 22 (.un UnOp.not) 21,MV 23 22,vQ 24 23 1,vR 25 23 (.bin .leq) 24 (i6 16),vQ 26 23
 25,P1 27 26 true (.load none) 3,P1 28 26 true (.fldA 3) 9,P1 29 26 true (.load none) 28,MG 30 26 true 1,PC 31 26 true (.bin .add) 30 (i6 1),PN 32 26 true .callv [.t 27,.t 29,.t
 31],P1 33 26 true (.un UnOp.not) 32,QF 34 23 false 26 33,PT 35 23 34] (vT 35 (vV [MC 6 (.bool false)]))).seq (vW [vL 36 0 9,LD 37 36,vN 38 .eql 37 1,MV 7 38])))).seq (vW [vN 39
 .add 12 1,MV 12 39])))).loop)).seq (vV [MC 6 (.bool true)]))))
theorem qpM:qJ Tryz.prog 303 40 1 [RV.tmp 6] qqJ:=fi Tryz.f303 [9] zI []
def qva:C:=
 (vS [O1 1 (.box 0 303) 0,vM 2 0] (vS [vL 6 0 1,O1 7 (.load (some 4)) 6,⟨some 3,none,.alloc 1 198 [i6 0,.str [],i6 0,.nl],[]⟩,ST 4 3 7] ((vS [vL 8 0 3,LD 9 8,vN 10 .lss 9 1,MV 11
 10,vZ 12 11 0 3,v6 13 11 12,vR 14 11 (.bin .gtr) 13 (i6 11),PT 15 11 14] (vT 15 (vV [vM 2 8]))).seq (vS [vL 16 0 3,LD 17 16,O1 18 (.gix 4 12 4) 17,O1 19 (.load (some 4))
 18,⟨some 4,none,.alloc 2 324 [.str [],.bool false,.bool false,.bool false],[]⟩,ST 4 4 19] (vS [vL 20 0 3,LD 21 20,vN 22 .eql 21 6,MV 5 22] ((C.block 0 (vS [vL 24 1 4,LD 25
 24,O1 26 (.un UnOp.not) 25,MV 27 26,P1 28 27 true (.fldA 1) 3,P1 29 27 true (.load none) 28,PC 30 27 true (.bin .neq) 29 (.str []),PF 31 27 30,MV 32 31,vZ 33 32 2 4,v6 34 32
 33,vO 35 32 (.un UnOp.not) 34,vQ 36 32 35,P1 37 36 true (.fldA 2) 3,P1 38 36 true (.load none) 37,PC 39 36 true (.bin .neq) 38 (i6 0),QF 40 32 false 36 39,PT 41 32 40,MV 42
 41,vZ 43 42 3 4,v6 44 42 43,vO 45 42 (.un UnOp.not) 44,vQ 46 42 45,P1 47 46 true (.fldA 3) 3,P1 48 46 true (.load none) 47,P1 49 46 true .len 48,PC 50 46 true (.bin .gtr) 49
 (i6 0),QF 51 42 false 46 50,PT 52 42 51,MV 23 52] (C.cond (.t 23) (vV [vM 2 8]) (vS [vL 54 0 3,LD 55 54,vN 56 .eql 55 1,MV 57 56,P1 58 57 true (.fldA 1) 3,P1 59 57 true (.load
 none) 58,PC 60 57 true (.bin .eql) 59 (.str []),PF 61 57 60,MV 62 61,vZ 63 62 3 4,v6 64 62 63,vQ 65 62 64,P1 66 65 true (.fldA 3) 3,P1 67 65 true (.load none) 66,P1 68 65 true
 .len 67,PC 69 65 true (.bin .eql) 68 (i6 0),QF 70 62 false 65 69,PT 71 62 70,MV 53 71] (C.cond (.t 53) (vV [vM 2 5]) (vS [vL 73 0 3,LD 74 73,vN 75 .eql 74 1,MV 76 75,P1 77 76
 true (.fldA 1) 3,P1 78 76 true (.load none) 77,P1 79 76 true (.call 181 true) 78,PC 80 76 true (.bin .neq) 79 (i6 0),PF 81 76 80,MV 72 81] (C.cond (.t 72) (vV [vM 2 11]) ((vS
 [vL 83 0 3,LD 84 83,vN 85 .eql 84 10,MV 86 85,P1 87 86 true (.fldA 1) 3,P1 88 86 true (.load none) 87,P1 89 86 true (.call 134 true) 88,P1 90 86 true (.un UnOp.not) 89,PF 91 86
 90,MV 82 91] (C.cond (.t 82) C.skip (vW [vL 92 1 4,LD 93 92,MV 94 93,P1 95 94 true (.fldA 0) 3,P1 96 94 true (.load none) 95,PC 97 94 true (.bin .neq) 96 (i6 1),PF 98 94 97,MV
 99 98,P1 100 99 true (.fldA 0) 3,P1 101 99 true (.load none) 100,PC 102 99 true (.bin .neq) 101 (i6 10),PF 103 99 102,MV 104 103,P1 105 104 true (.fldA 1) 3,P1 106 104 true
 (.load none) 105,P1 107 104 true (.call 169 true) 106,P1 108 104 true (.un UnOp.not) 107,PF 109 104 108,MV 82 109]))).seq (C.cond (.t 82) (vV [vM 2 14]) ((vS [vL 111 2 4,LD 112
 111,MV 113 112,P1 114 113 true (.fldA 2) 3,P1 115 113 true (.load none) 114,PC 116 113 true (.bin .lss) 115 (i6 1),PF 117 113 116,MV 110 117] (C.cond (.t 110) C.skip (vS [MV
 118 5,MV 119 118,P1 120 119 true (.fldA 2) 3,P1 121 119 true (.load none) 120,PC 122 119 true (.bin .gtr) 121 (i6 64),PF 123 119 122,MV 110 123] (C.cond (.t 110) C.skip (vW [vL
 124 2 4,LD 125 124,MV 126 125,MG 127 126 true 5,P1 128 126 true (.un UnOp.not) 127,PF 129 126 128,MV 130 129,P1 131 130 true (.fldA 2) 3,P1 132 130 true (.load none) 131,PC 133
 130 true (.bin .gtr) 132 (i6 8),PF 134 130 133,MV 110 134]))))).seq (C.cond (.t 110) (vV [vM 2 2]) (vS [vL 136 0 3,LD 137 136,vN 138 .eql 137 1,MV 139 138,P1 140 139 true
 (.fldA 5) 1,P1 141 139 true (.load none) 140,PF 142 139 141,MV 135 142] (C.cond (.t 135) (vV [vM 2 10]) (vS [vL 144 0 3,LD 145 144,vN 146 .eql 145 4,MV 147 146,P1 148 147 true
 (.fldA 4) 1,P1 149 147 true (.load none) 148,PC 150 147 true (.bin .gtr) 149 (i6 0),PF 151 147 150,MV 143 151] (vT 143 (vV [vM 2 12])))))))))))))))).seq (vV [vM 2 0])))))))
theorem qwQ:qJ Tryz.prog 277 152 3 [RV.tmp 2] qva:=fi Tryz.f277 [1,3,4] zI []
def qu0:C:=
 (vS [O1 3 (.box 0 3) 1,vM 4 0,vM 5 0] ((vS [MV 8 0,O1 9 (.call 240 true) 8,vN 10 .neq 9 0] (vT 10 (vV [vM 4 0,vM 5 1]))).seq ((vS [LD 11 3,vN 12 .lss 11 1,MV 13 12,v6 14 13 3,vR
 15 13 (.bin .gtr) 14 (i6 11),PT 16 13 15] (vT 16 (vV [vM 4 0,vM 5 8]))).seq (vS [⟨some 6,none,.alloc 1 3 [i6 0],[]⟩,⟨none,none,.store 1,[.t 6,.c (i6 0)]⟩] ((vS [MV 17 0,O1 18
 (.call 276 true) 17] (C.block 0 (C.range (.t 18) [19] (vW [⟨some 7,none,.alloc 2 303 [i6 0,.str [],i6 0,.nl,i6 0,.bool false],[]⟩,ST 6 7 19]) (C.block 1 (vS [vL 20 0 7,vL 21 0
 20,LD 22 21,LD 23 3,BI 24 .eql 22 23] (vT 24 (vW [LD 25 6,vN 26 .add 25 1,ST 1 6 26]))))))).seq (vV [LD 27 6,MV 4 27,vM 5 0]))))))
theorem qwF:qJ Tryz.prog 242 28 3 [RV.tmp 4,RV.tmp 5] qu0:=fi Tryz.f242 [3,6,7] zI []
def quZ:C:=
 (vS [vM 2 0] ((vS [MV 6 0,O1 7 .len 6,vN 8 .gtr 7 64] (vT 8 (vV [vM 2 4]))).seq ((vS [MV 9 0,O1 10 .len 9,vM 11 0] (C.block 0 (vS [BI 12 .lss 11 10] ((vU 12 0).seq ((C.block 1
 (vS [O2 13 (.idxA 2) 9 11,O1 14 (.load (some 2)) 13,⟨some 4,none,.alloc 0 277 [.str [],.str []],[]⟩,ST 2 4 14] (vS [O1 15 (.load (some 2)) 4,O1 16 (.call 279 true) 15,MV 5 16]
 (vS [MV 17 5,vN 18 .neq 17 0] (vT 18 (vV [MV 19 5,MV 2 19])))))).seq (vW [vN 20 .add 11 1,MV 11 20])))).loop)).seq (vV [vM 2 0]))))
theorem qwE:qJ Tryz.prog 241 21 1 [RV.tmp 2] quZ:=fi Tryz.f241 [4] zI []
def qvg:C:=
 (vS [MC 4 (.str []),vM 5 0] (vS [MV 9 0,MV 10 1,O2 11 (.call 308 true) 9 10,MV 8 11,O1 12 (.ext 0) 8,O1 13 (.ext 1) 8,MV 6 12,MV 7 13] ((vS [MV 14 7,vN 15 .neq 14 0] (vT 15 (vV
 [MV 16 7,MC 4 (.str []),MV 5 16]))).seq (vV [MV 17 6,MV 18 6,O1 19 .len 18,vN 20 .sub 19 1,O2 21 (.idxA 1) 17 20,LD 22 21,MV 4 22,vM 5 0]))))
theorem qwW:qJ Tryz.prog 286 23 0 [RV.tmp 4,RV.tmp 5] qvg:=fi Tryz.f286 [] zI []
def qvl:C:=
 (vS [ON 4 (.nilo 0 1 9) [],vM 5 0] ((vS [MV 7 0,MV 8 1,O2 9 (.call 318 true) 7 8,MV 6 9] (vS [MV 10 6,vN 11 .neq 10 0] (vT 11 (vV [MV 12 6,ON 4 (.nilo 0 1 9) [],MV 5 12])))).seq
 (vV [MV 13 0,MV 14 1,O2 15 (.call 319 true) 13 14,O1 16 (.ext 0) 15,O1 17 (.ext 1) 15,MV 4 16,MV 5 17])))
theorem qw2:qJ Tryz.prog 308 18 1 [RV.tmp 4,RV.tmp 5] qvl:=fi Tryz.f308 [4] zI []
def qvn:C:=
 (vS [ON 4 (.nilo 0 1 9) [],vM 5 0] (vS [MV 9 1,⟨some 10,none,.bslc 1 1 1 9 [.str []] [(0,1)],[.t 9]⟩,MV 6 10] (C.block 0 (C.block 1 (vS [MV 12 0,MV 13 6,MV 14 6,O1 15 .len 14,vN
 16 .sub 15 1,O2 17 (.idxA 1) 13 16,LD 18 17,O2 19 (.call 325 true) 12 18,MV 11 19,O1 20 (.ext 0) 11,O1 21 (.ext 1) 11,MV 7 20,MV 8 21] ((vS [MV 22 8,O1 23 (.un UnOp.not) 22]
 (vT 23 (vV [MV 24 6,MV 4 24,vM 5 0]))).seq ((vS [MV 25 6,O1 26 .len 25,vN 27 .eql 26 4096] (vT 27 (vV [ON 4 (.nilo 0 1 9) [],vM 5 4]))).seq (vW [MV 28 6,MV 29 7,⟨some
 30,none,.bslc 2 1 1 9 [.str []] [(0,1)],[.t 29]⟩,O2 31 (.app 3 1 9 16) 28 30,MV 6 31]))))).loop)))
theorem qw4:qJ Tryz.prog 319 32 4 [RV.tmp 4,RV.tmp 5] qvn:=fi Tryz.f319 [4,10,30,31] zI []
def qvm:C:=
 (vS [vM 4 0] ((C.block 0 (vS [MV 6 0,O1 7 (.call 241 true) 6,vN 8 .neq 7 0,MV 5 8] (C.cond (.t 5) (vV [vM 4 1]) (vS [MV 10 1,O1 11 .slen 10,vN 12 .gtr 11 64,MV 9 12] (C.cond (.t
 9) (vV [vM 4 4]) (vS [MV 14 1,O1 15 (.call 306 true) 14,O1 16 (.un UnOp.not) 15,MV 13 16] (vT 13 (vV [vM 4 11])))))))).seq (vV [vM 4 0])))
theorem qw3:qJ Tryz.prog 318 17 0 [RV.tmp 4] qvm:=fi Tryz.f318 [] zI []
def qvj:C:=
 (vS [MC 2 (.bool false)] ((vS [MV 4 0,O1 5 .slen 4,vM 6 0] (C.block 0 (vS [BI 7 .lss 6 5] ((vU 7 0).seq ((C.block 1 (vS [MV 8 6,MV 3 8] (vS [MV 9 0,MV 10 3,O2 11 .sidx 9 10,O1
 12 (.call 185 true) 11] (C.block 2 ((vS [vN 14 .eql 12 1,MV 13 14] (C.cond (.t 13) C.skip (vS [vN 15 .eql 12 2,MV 13 15] (C.cond (.t 13) C.skip (vS [vN 16 .eql 12 3,MV 13 16]
 (C.cond (.t 13) C.skip (vW [vN 17 .eql 12 4,MV 13 17]))))))).seq (C.cond (.t 13) C.skip (vV [MC 2 (.bool false)]))))))).seq (vW [vN 18 .add 6 1,MV 6 18])))).loop)).seq (vV [MC
 2 (.bool true)])))
theorem qw0:qJ Tryz.prog 306 19 0 [RV.tmp 2] qvj:=fi Tryz.f306 [] zI []
def qvo:C:=
 (vS [⟨some 4,none,.alloc 0 9 [.str []],[]⟩,⟨some 5,none,.alloc 1 4 [.bool false],[]⟩] ((vS [MV 7 0,MV 8 1,O2 9 (.call 328 true) 7 8] (C.block 0 (C.range (.t 9) [10] (vW [MV 6
 10]) (C.block 1 (vV [MV 11 6,ST 1 4 11,⟨none,none,.store 1,[.t 5,.c (.bool true)]⟩]))))).seq (vV [MV 12 1,ST 1 4 12,⟨none,none,.store 1,[.t 5,.c (.bool false)]⟩])))
theorem qw6:qJ Tryz.prog 325 13 2 [RV.cell 4 none,RV.cell 5 none] qvo:=fi Tryz.f325 [4,5] zI []
def qvp:C:=
 (vS [O1 2 (.box 0 229) 0,O1 3 (.box 1 9) 1,MC 4 .nilfn] (vV [O2 5 (.mkfn (Fn.func 329) 0) 3 2,MV 4 5]))
theorem qw7:qJ Tryz.prog 328 6 2 [RV.tmp 4] qvp:=fi Tryz.f328 [2,3] zI []
def qvq:C:=
 (vS [LD 9 1,O1 10 .slen 9,vM 11 0] (C.block 0 (vS [BI 12 .lss 11 10] ((vU 12 0).seq ((C.block 1 (vS [MV 13 11,MV 4 13] (vS [LD 14 2,O1 15 .len 14,vM 16 0] (C.block 2 (vS [BI 17
 .lss 16 15] ((vU 17 2).seq ((C.block 3 (vS [O2 18 (.idxA 2) 14 16,O1 19 (.load (some 2)) 18,⟨some 6,none,.alloc 0 277 [.str [],.str []],[]⟩,ST 2 6 19] (vS [LD 21 1,MV 22 4,O2
 23 (.sslc true false) 21 22,vL 24 0 6,LD 25 24,O2 26 (.call 62 true) 23 25,MV 20 26,O1 27 (.ext 0) 20,O1 28 (.ext 1) 20,MV 7 27,MV 8 28] (vS [MV 29 8,MV 30 29,MG 31 30 true
 0,P1 32 30 true (.load none) 1,MG 33 30 true 4,P2 34 30 true (.sslc false true) 32 33,P1 35 30 true (.fldA 1) 6,P1 36 30 true (.load none) 35,P2 37 30 true (.bin .add) 34 36,MG
 38 30 true 7,P2 39 30 true (.bin .add) 37 38,P2 40 30 true .callv 31 39,P1 41 30 true (.un UnOp.not) 40,PF 42 30 41] (vT 42 C.ret))))).seq (vW [vN 43 .add 16 1,MV 16
 43])))).loop)))).seq (vW [vN 44 .add 11 1,MV 11 44])))).loop))
theorem qw8:qJ Tryz.prog 329 45 1 [] qvq:=fi Tryz.f329 [6] zI []
def qu1:C:=
 (vS [O1 2 (.box 0 88) 0,O1 3 (.box 1 196) 1,MC 4 .nilfn] (vV [O2 5 (.mkfn (Fn.func 280) 0) 2 3,MV 4 5]))
theorem qwG:qJ Tryz.prog 243 6 2 [RV.tmp 4] qu1:=fi Tryz.f243 [2,3] zI []
def qvc:C:=
 (vS [O1 3 (.box 0 306) 0] (vS [O1 6 (.load (some 2)) 1,⟨some 7,none,.build [i6 0,.int .u8 0,i6 0,.str [],i6 0,.bool false,.str []] [(3,2)],[.t 6]⟩,⟨some 4,none,.alloc 1 269 [i6
 0,.int .u8 0,i6 0,.str [],i6 0,.bool false,.str []],[]⟩,ST 7 4 7] (vS [⟨some 5,none,.alloc 2 307 [.nilfn],[]⟩] (vS [ON 8 (.mkfn (Fn.func 281) 0) [.t 4,.t 3,.t 5],ST 1 5 8] (vW
 [LD 9 5,LD 10 2,O2 11 .callv 9 10])))))
theorem qwS:qJ Tryz.prog 280 12 3 [] qvc:=fi Tryz.f280 [3,4,5] zI []
@[go_sem]def vd:DT:= DT.one ⟨some 22,none,.fldA 2,[.t 1]⟩ (DT.one ⟨none,none,.store 1,[.t 22,.t 20]⟩ DT.nil)
@[go_sem]def vf:DT:= DT.one ⟨some 49,none,.fldA 6,[.t 1]⟩ (DT.one ⟨none,none,.store 1,[.t 49,.t 47]⟩ DT.nil)
def qvd:C:=
 (vS [MC 5 (.bool false)] ((vS [MV 11 0,O1 12 .len 11,vM 13 0] (C.block 0 (vS [BI 14 .lss 13 12] ((vU 14 0).seq ((C.block 1 (vS [O2 15 (.idxA 4) 11 13,O1 16 (.load (some 4))
 15,⟨some 7,none,.alloc 0 198 [i6 0,.str [],i6 0,.nl],[]⟩,ST 4 7 16] ((C.draw (DT.one ⟨some 17,none,.fldA 0,[.t 7]⟩ (DT.one ⟨some 18,none,.load none,[.t 17]⟩ (DT.one ⟨some
 21,none,.fldA 0,[.t 1]⟩ ((DT.one ⟨some 19,none,.fldA 2,[.t 7]⟩ ((DT.one ⟨some 20,none,.load none,[.t 19]⟩ (DT.one ⟨none,none,.store 1,[.t 21,.t 18]⟩ vd)).two (DT.one
 ⟨none,none,.store 1,[.t 21,.t 18]⟩ (DT.one ⟨some 20,none,.load none,[.t 19]⟩ vd)))).two (DT.one ⟨none,none,.store 1,[.t 21,.t 18]⟩ (DT.one ⟨some 19,none,.fldA 2,[.t 7]⟩ (DT.one
 ⟨some 20,none,.load none,[.t 19]⟩ vd)))))))).seq (vS [vL 23 0 7,LD 24 23] (C.block 2 (vS [vN 53 .eql 24 2,MV 52 53] (C.cond (.t 52) (vW [vL 54 3 1,vL 55 1 54,LD 56 55,vN 57
 .add 56 1,vL 58 3 1,vL 59 1 58,ST 1 59 57]) (vS [vN 61 .eql 24 3,MV 60 61] (C.cond (.t 60) (vW [vL 62 1 7,LD 63 62,⟨some 64,none,.build [.str [],i6 0] [(0,1)],[.t 63]⟩,vL 65 3
 1,ST 2 65 64]) (vS [vN 67 .eql 24 1,MV 66 67] (C.cond (.t 66) (vS [vL 68 1 7,LD 69 68,O1 70 .slen 69,vM 71 0] (C.block 3 (vS [BI 72 .lss 71 70] ((vU 72 3).seq ((C.block 4 (vS
 [MV 73 71,MV 8 73] (vS [vL 74 1 7,LD 75 74,MV 76 8,O2 77 .sidx 75 76,vL 78 1 1,ST 1 78 77] (vS [LD 79 2,O1 80 (.load (some 7)) 1,O2 81 .callv 79 80,O1 82 (.un UnOp.not) 81] (vT
 82 (vV [MC 5 (.bool false)])))))).seq (vW [vN 83 .add 71 1,MV 71 83])))).loop)) ((vS [vN 85 .eql 24 6,MV 84 85] (C.cond (.t 84) C.skip (vS [vN 86 .eql 24 5,MV 84 86] (C.cond
 (.t 84) C.skip (vW [vN 87 .eql 24 4,MV 84 87]))))).seq (C.cond (.t 84) (vS [LD 88 2,O1 89 (.load (some 7)) 1,O2 90 .callv 88 89,O1 91 (.un UnOp.not) 90] (vT 91 (vV [MC 5 (.bool
 false)]))) (vS [O1 25 (.load (some 7)) 1,⟨some 9,none,.alloc 1 269 [i6 0,.int .u8 0,i6 0,.str [],i6 0,.bool false,.str []],[]⟩,ST 7 9 25] (vS [vL 26 5 1,LD 27 26,MV 28 27,vZ 29
 28 0 7,v6 30 28 29,vR 31 28 (.bin .eql) 30 (i6 7),PT 32 28 31,vL 33 5 1,ST 1 33 32] ((vS [vL 34 0 7,LD 35 34,vN 36 .eql 35 11] (vT 36 (vW [vL 37 1 7,LD 38 37,vL 39 6 1,ST 1 39
 38]))).seq (vS [LD 40 3,vL 41 3 7,LD 42 41,O2 43 .callv 40 42,MV 10 43] ((C.draw (DT.one ⟨some 44,none,.fldA 5,[.t 9]⟩ (DT.one ⟨some 45,none,.load none,[.t 44]⟩ (DT.one ⟨some
 48,none,.fldA 5,[.t 1]⟩ ((DT.one ⟨some 46,none,.fldA 6,[.t 9]⟩ ((DT.one ⟨some 47,none,.load none,[.t 46]⟩ (DT.one ⟨none,none,.store 1,[.t 48,.t 45]⟩ vf)).two (DT.one
 ⟨none,none,.store 1,[.t 48,.t 45]⟩ (DT.one ⟨some 47,none,.load none,[.t 46]⟩ vf)))).two (DT.one ⟨none,none,.store 1,[.t 48,.t 45]⟩ (DT.one ⟨some 46,none,.fldA 6,[.t 9]⟩ (DT.one
 ⟨some 47,none,.load none,[.t 46]⟩ vf)))))))).seq (vS [MV 50 10,O1 51 (.un UnOp.not) 50] (vT 51 (vV [MC 5 (.bool false)]))))))))))))))))))))).seq (vW [vN 92 .add 13 1,MV 13
 92])))).loop)).seq (vV [MC 5 (.bool true)])))
theorem qwT:qJ Tryz.prog 281 93 2 [RV.tmp 5] qvd:=fi Tryz.f281 [7,9] zI []
def qve:C:=
 (vS [MC 2 .nilp] (vV [MV 3 0,O1 4 .nilchk 3,vL 5 0 4,LD 6 5,MV 7 0,O1 8 .nilchk 7,vL 9 0 8,LD 10 9,O1 11 .len 10,vN 12 .sub 11 1,O2 13 (.idxA 6) 6 12,MV 2 13]))
theorem qwU:qJ Tryz.prog 284 14 0 [RV.tmp 2] qve:=fi Tryz.f284 [] zI []
def qqF:C:=
 (vS [O1 1 (.box 0 92) 0,MC 2 (.bool false)] (vV [vL 3 0 1,LD 4 3,O1 5 .slen 4,vN 6 .gtr 5 64,MV 2 6]))
theorem qpI:qJ Tryz.prog 246 7 1 [RV.tmp 2] qqF:=fi Tryz.f246 [1] zI []
def qBy:C:=
 (vS [ON 2 (.nilo 0 1 9) []] (vS [ON 3 (.nilo 1 1 9) []] ((vS [MV 6 0,O1 7 .len 6,vM 8 0] (C.block 0 (vS [BI 9 .lss 8 7] ((vU 9 0).seq ((C.block 1 (vS [O2 10 (.idxA 6) 6 8,O1 11
 (.load (some 6)) 10,⟨some 5,none,.alloc 2 92 [.str [],.str [],.str [],i6 0,i6 0,.str []],[]⟩,ST 6 5 11] (vW [MV 12 3,vL 13 0 5,LD 14 13,⟨some 15,none,.bslc 3 1 1 9 [.str []]
 [(0,1)],[.t 14]⟩,O2 16 (.app 4 1 9 16) 12 15,MV 3 16]))).seq (vW [vN 17 .add 8 1,MV 8 17])))).loop)).seq (vV [MV 18 3,MV 2 18]))))
theorem qAn:qJ Tryz.prog 91 19 5 [RV.tmp 2] qBy:=fi Tryz.f91 [2,3,5,15,16] zI []
end
section
open Go Go.Proofs AF HY LN
namespace RC
abbrev frmN:Nat:=4
def frmC:wg:= [.str [],.bool false,.bool false,.bool false,.str [],.bool true,.bool false,.bool false,.str [108,98],.bool false,.bool false,.bool false,.str [112,98],.bool true,.bool false,.bool false,
 .str [115,101,99],.bool true,.bool false,.bool false,.str [118],.bool false,.bool false,.bool false,.str [103,97,112],.bool false,.bool true,.bool false,.str [117,110,99,108,101,97,114],.bool false,.bool false,.bool true,
 .str [97,100,100],.bool false,.bool true,.bool true,.str [100,101,108],.bool false,.bool true,.bool true,.str [97,98],.bool true,.bool false,.bool true,.str [110,97,109,101],.bool true,.bool false,.bool true]
def qxn:wg:= [.str [],.bool true,.bool false,.bool false]
theorem qpO:(frmC.drop ((1:Int).toNat*4)).take 4=qxn:=rfl
def PF(h:we):Prop:=kJ SG h∧zQ h frmN frmC
theorem PF.app{h:we}(hp:PF h)(l:we):PF (h++l):=⟨hp.1.app l,hp.2.app⟩
def ndC(s:Str):wg:= [.int .i64 1,.str s,.int .i64 0,.nl]
def jW(s:Str):AV:= .sl 1 λ_=>ndC s
def plC(s:Str):wg:= [.int .i64 1,.str s,.int .i64 0,.nl,.int .i64 0,.bool false]
theorem qCM(s:Str)(h:we)(hs:s≠ [])(hl:s.length<=1000000)(hc:zR s=0)(hg:zQ h frmN frmC):ACalls Tryz.prog 277 [.agg (plC s)] h (.int .i64 0) h:=by
 have c1:=λh=>qA2 s h om
 rw[hc]at c1;have k1:(s= [])=False:=eqf hs;refine acO qwQ ?_;simp (disch:=omega) only[qva,plC,go_sem]
 repeat' first|(apply qb;exact rvk;simp only[go_sem];apply qh)|(with_reducible first|intro _|apply aiA)|exact clz|fail
 refine qpS (cs:=frmC) hg.app ⟨by decide,by decide⟩ rfl ?_;rw[qpO];simp (disch:=omega) only[qxn,k1,go_sem]
 repeat' first|(refine qj ( .bool false) ?_;simp (disch:=omega) only[go_sem])|(refine cG (λe=>c1 _) flk ?_;simp (disch:=omega) only[go_sem])|(apply qb;exact rvk;simp only[go_sem];first|exact qi|apply qh)|(with_reducible first|intro _|apply aiA)|exact clz|fail
end RC
end
section
open Go Go.Proofs AF HY LN
namespace AF
mutual
theorem kn{n m:Nat}(h:n<=m): ∀c,qR n c=true->qR m c=true
 | .osl k v z o l,hc=>by simp only[qR,decide_eq_true_eq]at*;omega
 | .op k v o,hc=>by simp only[qR,decide_eq_true_eq]at*;omega
 | .mp k v,hc=>by simp only[qR,decide_eq_true_eq]at*;omega
 | .yld k,hc=>by simp only[qR,decide_eq_true_eq]at*;omega
 | .agg cs,hc=>by simp only[qR]at*;exact kP h cs hc
 | .tup cs,hc=>by simp only[qR]at*;exact kP h cs hc
 | .fn f a b,hc=>by simp only[qR,Bool.and_eq_true]at*;exact⟨kP h a hc.1,kP h b hc.2⟩
 | .gd g v,hc=>by
  cases g with
  |false=>rfl
  |true=>simp only[qR,Bool.not_true,Bool.false_or]at*;exact kn h v hc
 | .undef,_=>rfl
 | .bool _,_=>rfl
 | .int _ _,_=>rfl
 | .str _,_=>rfl
 | .sl _ _,_=>rfl
 | .ip _,_=>rfl
 | .nilp,_=>rfl
 | .nl,_=>rfl
 | .el,_=>rfl
 | .nilfn,_=>rfl
 | .ifc,_=>rfl
 | .nilif,_=>rfl
 | .anyb,_=>rfl
theorem kP{n m:Nat}(h:n<=m): ∀cs,qR.lowVs n cs=true->qR.lowVs m cs=true
 | [],_=>rfl
 |c::r,hc=>by simp only[qR.lowVs,Bool.and_eq_true]at*;exact⟨kn h c hc.1,kP h r hc.2⟩
end
theorem lowO_mono{n m:Nat}(h:n<=m){o:AObj}(ho:lowO n o):lowO m o:=by
 cases o with
 |mem v ty cs=>exact λc hc=>kn h c (ho c hc)
 |emp v=>trivial
 |lp s ts L=>exact λc hc=>kn h c (ho c hc)
 |map v es=>exact λp hp=>kn h p.2 (ho p hp)
 |pin bs G=>trivial
theorem LowI.retX{h hh xs:we}{ts:wg}{L:LInfo}(s:LS)(hl:LowI h hh)(hts: ∀c∈ts,qR (h.length+1) c=true):
  (hh++ .lp s ts L::xs).length=(h++ .lp .ready ts L::xs).length∧ ∀o∈hh++ .lp s ts L::xs,o∈h++ .lp .ready ts L::xs∨lowO (h++ .lp .ready ts L::xs).length o:=by
 refine⟨by simp[hl.1],λo ho=> ?_⟩;rcases List.mem_append.1 ho with ho|ho
 ·rcases hl.2 o ho with h1|⟨h1,_⟩
  ·exact .inl (List.mem_append_left _ h1)
  ·exact .inr (lowO_mono (by simp) h1)
 ·rcases List.mem_cons.1 ho with rfl|ho
  ·exact .inr (λc hc=>kn (by simp) c (hts c hc))
  ·exact .inl (List.mem_append_right _ (List.mem_cons_of_mem _ ho))
end AF
namespace RC
theorem qDe(d:Int)(a b:AV)(h:we):ACalls Tryz.prog 303 [.nl,.int .i64 d,a,b] h (.bool true) h:=by
 refine acO qpM ?_;simp (disch:=omega) only[qqJ,go_sem];refine qr (T:=λ_:Unit=>qX 40 [(1,.int .i64 d),(2,a),(3,b),(7,.bool false),(10,.nl),(11,.int .i64 0),(12,.int .i64 0)]) (H:=λ_=>h++ [.emp 0]) (inv:=λ_=>True) (m:=λ_=>0) () trivial (Wk.temps ?_) ?_
 ·(simp only[go_sem,qg,qc,qa,qf];try exact wa)
 rintro⟨⟩ _ K hK;simp (disch:=omega) only[go_sem]
 repeat' first|exact v7|(with_reducible first|intro _|apply aiA)|exact clz|fail
def cyl(n:Nat):AObj:= .mem 1 321 [.yld n]
def cwk(n:Nat):AObj:= .mem 1 322 [.fn (.func 303) [] [.op (n+1) 1 0,.op (n+2) 1 0]]
section
variable {n : Nat} {hh m : we} {st : LS} {ts : wg} {LI : LInfo}
theorem qx0(hl:hh.length=n):cellsOf (hh++ .lp st ts LI::cyl n::cwk n::m) (n+1) 1=some [.yld n]:=qM (show qt _ _=some (cyl n) by subst hl;unfold qt;simp)
theorem qx1(hl:hh.length=n):cellsOf (hh++ .lp st ts LI::cyl n::cwk n::m) (n+2) 1=some [.fn (.func 303) [] [.op (n+1) 1 0,.op (n+2) 1 0]]:=qM (show qt _ _=some (cwk n) by subst hl;unfold qt;simp)
end
theorem wlk1(s:Str)(h:we)(ts:wg)(LI:LInfo)(S:Nat->we->Prop)(E:LS->we->Prop)(hS: ∀i hh,S i hh->LowI h hh)(hE: ∀s hh,E s hh->LowI h hh)
  (body: ∀i hh tl,(hi:i< [[AV.agg (plC s)]].length)->S i hh->jZ Tryz.prog h.length ([[AV.agg (plC s)]][i]) (hh++ .lp .ready ts LI::tl) (λr h'=> ∃hh',(r= .bool true∧S (i+1) hh'∧h'=hh'++ .lp .ready ts LI::tl)∨(∃s,r= .bool false∧E s hh'∧h'=hh'++ .lp s ts LI::tl)))
  (start:S 0 h) (hts: ∀c∈ts,qR (h.length+1) c=true):
  zZ Tryz.prog 303 [jW s,.int .i64 0,.op (h.length+1) 1 0,.op (h.length+2) 1 0] (h++ [.lp .ready ts LI,cyl h.length,cwk h.length])
   (λr h'=> ∃hh',(r= .bool true∧S 1 hh'∧h'=hh'++ [.lp .ready ts LI,cyl h.length,cwk h.length])∨(∃st,r= .bool false∧E st hh'∧h'=hh'++ [.lp st ts LI,cyl h.length,cwk h.length])):=by
 refine acQ qpM ?_;simp (disch:=omega) only[qqJ,jW,ndC,go_sem];refine qr (T:=λi:Nat×we×AObj=>qX 40 [(1,.int .i64 0),(2,.op (h.length+1) 1 0),(3,.op (h.length+2) 1 0),(7,.bool (decide (i.1=1))),(10,jW s),(11,.int .i64 ((1:Nat):Int)),(12,.int .i64 i.1)])
  (H:=λi=>i.2.1++ [.lp .ready ts LI,cyl h.length,cwk h.length]++ [i.2.2])
  (inv:=λi=>i.1<=1∧S i.1 i.2.1∧qI [i.2.2] 0=true) (m:=λi=>1-i.1) (0,h,.emp 0) ⟨nzl _,start,rfl⟩ (Wk.temps ?_) ?_
 ·(simp only[jW,ndC,go_sem,qg,qc,qa,qf];try exact wa)
 rintro⟨i,hh,O⟩ ⟨i1,i2,i3⟩ K hK;simp only at i1 i2 i3 hK;obtain⟨hlen,hlow⟩:=hS _ _ i2;have hb:(h++ [AObj.lp LS.ready ts LI,cyl h.length,cwk h.length]).length=(hh++ [AObj.lp LS.ready ts LI,cyl h.length,cwk h.length]).length:=by simp[hlen]
 rw[hb];have i3': ∀m,qI (O::m) 0=true:=λ_=>i3
 have ea: ∀(g:we) m,g++ [AObj.lp LS.ready ts LI,cyl h.length,cwk h.length]++m=g++ .lp .ready ts LI::cyl h.length::cwk h.length::m:=λg m=>by simp
 have d1: ∀m,cellsOf (hh++ [AObj.lp LS.ready ts LI,cyl h.length,cwk h.length]++m) (h.length+1) 1=some [.yld h.length]:=λm=>by rw[ea];exact qx0 hlen
 have d2: ∀m,cellsOf (hh++ [AObj.lp LS.ready ts LI,cyl h.length,cwk h.length]++m) (h.length+2) 1=some [.fn (.func 303) [] [.op (h.length+1) 1 0,.op (h.length+2) 1 0]]:=λm=>by rw[ea];exact qx1 hlen
 by_cases hi:i<1
 ·obtain rfl:i=0:=by omega
  have hb':=λO'=>body 0 hh [cyl h.length,cwk h.length,O'] (by simp) i2
  simp (disch:=omega) only[jW,ndC,i3',d1,go_sem]
  repeat' first|(with_reducible first|intro _|apply aiA)|exact clz|fail
  ·exact⟨.ready,ts,LI,by rw[ea];exact kC hlen⟩
  ·rw[ea];refine jZ.mono ?_ (hb' _);rintro v h' ⟨hh',⟨rfl,hn,rfl⟩|⟨st,rfl,hs',rfl⟩⟩
   ·have hl':=(hS _ _ hn).1;have hq:(hh++ [AObj.lp LS.ready ts LI,cyl h.length,cwk h.length]).length=(hh'++ [AObj.lp LS.ready ts LI,cyl h.length,cwk h.length]).length:=by simp[hlen,hl']
    rw[<-ea,hq];have e1: ∀m,cellsOf (hh'++ [AObj.lp LS.ready ts LI,cyl h.length,cwk h.length]++m) (h.length+1) 1=some [.yld h.length]:=λm=>by rw[ea];exact qx0 hl'
    have e2: ∀m,cellsOf (hh'++ [AObj.lp LS.ready ts LI,cyl h.length,cwk h.length]++m) (h.length+2) 1=some [.fn (.func 303) [] [.op (h.length+1) 1 0,.op (h.length+2) 1 0]]:=λm=>by rw[ea];exact qx1 hl'
    simp (disch:=omega) only[e2,go_sem]
    repeat' first|(refine qE (qDe _ _ _ _) ?_;simp (disch:=omega) only[go_sem])|(with_reducible first|intro _|apply aiA)|exact clz|fail
    refine hK _ _ (1,hh',.mem (qq (some O)+1) 198 (ndC s)) ⟨nlr _,hn,rfl⟩ (by simp only;omega) (Wk.temps ?_)
    (simp only[jW,ndC,go_sem,qg,qc,qa,qf];try (repeat' first|(with_reducible apply aiA)|(apply qh;omega)|(apply qd;rfl)|exact qi))
   ·simp (disch:=omega) only[go_sem]
    repeat' first|(with_reducible first|intro _|apply aiA)|exact clz|fail
    obtain⟨r1,r2⟩:=(hE _ _ hs').retX (L:=LI) (xs:= [cyl h.length,cwk h.length]) st hts;have eO: ∀O',hh'++ .lp st ts LI::cyl h.length::cwk h.length:: [O']=(hh'++ [.lp st ts LI,cyl h.length,cwk h.length])++ [O']:=λ_=>by simp
    rw[eO];exact RU ⟨trivial,trivial⟩ r1 r2 ⟨hh',.inr ⟨st,rfl,hs',rfl⟩⟩ (qi)
 ·obtain rfl:i=1:=by omega
  simp (disch:=omega) only[jW,ndC,go_sem]
  repeat' first|(with_reducible first|intro _|apply aiA)|exact clz|fail
  obtain⟨r1,r2⟩:=(hS _ _ i2).retX (L:=LI) (xs:= [cyl h.length,cwk h.length]) .ready hts;exact RU ⟨trivial,trivial⟩ r1 r2 ⟨hh,.inl ⟨rfl,i2,rfl⟩⟩ (qi)
end RC
end
section
namespace Go.Proofs
open Go.Shelf Go.RowKit
set_option maxHeartbeats 1000000 in
set_option maxRecDepth 100000 in
theorem qin(b d:Nat)(w:World)(h0:w.cell? ⟨b,d,none⟩=some (.pointer (some ⟨b,d,none⟩))):
  Calls Tryz.prog 159 #[.pointer (some ⟨b,d,none⟩)] w λe w'=>e= .returned (.tuple #[])∧w'=w:=by
 obtain⟨j,hj,_⟩:=Option.map_eq_some_iff.1 (show (Tryz.prog.info? 158).map (·.size)=some 2 by kernel_rfl)
 go_enter Tryz.func159,Tryz.ntmps159
 go_wp2
 rw[Lib.run_neq_ptr_same w _ Tryz.underlying155 hj]
 go_wp2
 go_end0
 exact⟨rfl,rfl⟩
set_option maxHeartbeats 1000000 in
set_option maxRecDepth 100000 in
theorem qeG(b d ty n:Nat)(w:World)(h0:w.cell? ⟨b,d,none⟩=some (.pointer none))(hn:d+2<=n)(hsh:w.shape? b=some (ty,n))(hfz:w.frozen? ⟨b,d,none⟩=false)
  (hl:liesAt Tryz.prog Tryz.prog.depth ty (n/Tryz.prog.cellsOf ty) d 158 1=true):
  Calls Tryz.prog 159 #[.pointer (some ⟨b,d,none⟩)] w λe w'=>e= .returned (.tuple #[])∧w'=w.setCell ⟨b,d,none⟩ (.pointer (some ⟨b,d,none⟩)):=by
 obtain⟨j,hj,hjs⟩:=Option.map_eq_some_iff.1 (show (Tryz.prog.info? 158).map (·.size)=some 2 by kernel_rfl)
 go_enter Tryz.func159,Tryz.ntmps159
 go_wp2
 rw[Lib.run_to_unsafe w ⟨b,d,none⟩ Tryz.underlying155 Tryz.underlying240 hj (by rw[hjs];decide) hsh (show d<n by omega)];simp only[Result.andThen];rw[Oper.upon_value]
 go_wp2
 rw[run_callFunc_extern Tryz.func208 (by kernel_rfl) (by kernel_rfl) (by kernel_rfl) (e:=Extern.AbiNoEscape.same) (by kernel_rfl)];rw[Lib.run_noEscape];simp only[Result.andThen];rw[Oper.upon_value]
 go_wp2
 rw[Lib.run_from_unsafe w ⟨b,d,none⟩ Tryz.underlying240 Tryz.underlying155 hj hsh hl];simp only[Result.andThen];rw[Oper.upon_value]
 go_wp2
 go_end0
 exact⟨rfl,rfl⟩
set_option maxHeartbeats 1000000 in
set_option maxRecDepth 100000 in
theorem qfk(b d g cap:Nat)(l:List UInt8)(cur:Array Value)(w:World)(h0:l≠ [])(c0:w.cell? ⟨b,d+1,none⟩=some (.slice (some ⟨g,0,none⟩) l.length cap))(hg:w.heap[g]? =some (.cells cur 5 (0,0)))
  (hnc:l.length<=cap) (hcm:cap<=maxLen) (hcs:cap<=cur.size) (hcell: ∀(j:Nat) x,l[j]? =some x->w.cell? ⟨g,j,none⟩=some (.int .u8 x.toNat)):
  Calls Tryz.prog 116 #[.pointer (some ⟨b,d,none⟩)] w λe w'=>e= .returned (.string ⟨l.toArray⟩)∧w'=w.drew.freeze ⟨g,0,none⟩ l.length:=by
 have hl0:l.length≠0:=by simpa using h0
 have c1:w.drew.cell? ⟨b,d+1,none⟩=some (.slice (some ⟨g,0,none⟩) l.length cap):=c0;have hSD:(Builtin.unsafeSliceData_ #[156] 202 #[.slice (some ⟨g,0,none⟩) l.length cap]).run Tryz.prog w.drew= .ok (.pointer (some ⟨g,0,none⟩)) w.drew:=
  Lib.run_unsafeSliceData_row _ _ _ _ _ _ om
 have hUS:(Builtin.unsafeString_ #[202,3] 9 #[.pointer (some ⟨g,0,none⟩),.int .i64 l.length]).run Tryz.prog w.drew= .ok (.string ⟨l.toArray⟩) (w.drew.freeze ⟨g,0,none⟩ l.length):=by
  refine Lib.run_unsafeString_row w.drew 202 3 9 5 Tryz.underlying202 (by kernel_rfl) g cur.size (by have hg':w.drew.heap[g]? =some (.cells cur 5 (0,0)):=hg;simp[World.shape?,hg']) l h0 om (by unfold maxLen at hcm;omega) ?_;intro j x hx
  have:=hcell j x hx
  cases j with
  |zero=>exact this
  |succ j=>
   have e:(⟨g,0,none⟩:Addr).add (j+1)=⟨g,j+1,none⟩:=by
    unfold Addr.add;rw[ine (Nat.succ_ne_zero j)];simp only[Nat.zero_add]
   rw[e];exact this
 have mixed:Tryz.prog.follows .mixedOrders=true:=by kernel_rfl
 go_enter Tryz.func116,Tryz.ntmps116
 go_wp2
 go_region_o
 all_goals (go_wp2;go_ret;exact⟨rfl,rfl⟩)
set_option maxHeartbeats 2000000 in
set_option maxRecDepth 100000 in
theorem qfj(b d:Nat)(w:World)(c0:w.cell? ⟨b,d+1,none⟩=some (.slice none 0 0)):
  Calls Tryz.prog 116 #[.pointer (some ⟨b,d,none⟩)] w λe w'=>e= .returned (.string ⟨#[]⟩)∧w'=w.drew:=by
 have hUS: ∀(W:World) (q:Option Addr),(Builtin.unsafeString_ #[202,3] 9 #[.pointer q,.int .i64 0]).run Tryz.prog W= .ok (.string .empty) W:=λW q=>Lib.run_unsafeString_none W _ _ _ q
 have c1:w.drew.cell? ⟨b,d+1,none⟩=some (.slice none 0 0):=c0;have hSD:(Builtin.unsafeSliceData_ #[156] 202 #[.slice none 0 0]).run Tryz.prog w.drew= .ok (.pointer none) w.drew:=rfl;have mixed:Tryz.prog.follows .mixedOrders=true:=by kernel_rfl
 go_enter Tryz.func116,Tryz.ntmps116
 go_wp2
 go_region_o
 all_goals (go_wp2;go_ret;exact⟨rfl,rfl⟩)
end Go.Proofs
end
section
open Go Go.Proofs AF
def qjl:List Nat:= [159,118,307,116,285]
def quj:C:=
 (vS [vM 4 0,MC 5 .nilif] (vS [MV 6 0,O1 7 (.call 159 false) 6] (vS [MV 8 0,MV 9 0,O1 10 .nilchk 9,vL 11 1 10,LD 12 11,MV 13 1,O2 14 (.apps 0 5) 12 13,O1 15 .nilchk 8,vL 16 1
 15,ST 1 16 14] (vV [MV 17 1,O1 18 .slen 17,MV 4 18,MC 5 .nilif]))))
theorem qvU:qJ Tryz.prog 118 19 1 [RV.tmp 4,RV.tmp 5] quj:=fi Tryz.f118 [14] qjl []
def qvk:C:=
 (vS [MC 4 .nilif] (vS [MV 5 0,O1 6 (.call 159 false) 5] (vS [MV 7 0,MV 8 0,O1 9 .nilchk 8,vL 10 1 9,LD 11 10,MV 12 1,⟨some 13,none,.bslc 0 1 1 5 [.int .u8 0] [(0,1)],[.t 12]⟩,O2
 14 (.app 1 1 5 1) 11 13,O1 15 .nilchk 7,vL 16 1 15,ST 1 16 14] (vV [MC 4 .nilif]))))
theorem qw1:qJ Tryz.prog 307 17 2 [RV.tmp 4] qvk:=fi Tryz.f307 [13,14] qjl []
end
section
open Go Go.Proofs AF HY RC LN
namespace HY
def qaQ(v:Nat)(s:List UInt8):AObj:=if s= [] then .emp v else .mem v 5 (zz s)
theorem U7(v:Nat):qaQ v []= .emp v:=rfl
theorem Tm{s:List UInt8}(h:s≠ [])(v:Nat):qaQ v s= .mem v 5 (zz s):=ine h
theorem qa5(s u:List UInt8):zz (s++u)=zz s++zz u:=by simp[zz]
theorem qfD(s:List UInt8)(n:Nat): ∀c∈zz s,qR n c=true:=by
 intro c hc;unfold zz at hc;rw[List.mem_map]at hc;obtain⟨a,_,rfl⟩:=hc;rfl
theorem jb(v:Nat)(s:List UInt8)(n:Nat):lowO n (qaQ v s):=by
 unfold qaQ;split
 ·trivial
 ·exact qfD s n
theorem qby{kb kj:Nat}{h:we}{X Y Z:AObj}(hne:kb≠kj):qo kb (qo kj (qo kb h X) Y) Z=qo kj (qo kb h Z) Y:=by
 rw[kq hne,kT]
theorem qqu(v:Nat)(u:List UInt8):(if u.length=0 then AObj.emp v else AObj.mem v 5 (zz u))=qaQ v u:=by
 unfold qaQ
 by_cases h:u= []
 ·simp[h]
 ·rw[ine h,ine (by simpa using h)]
theorem UL(w:World)(g n:Nat):w.grownBy (w.drew.freeze ⟨g,0,none⟩ n) (some g):=by
 unfold World.freeze;split
 ·exact⟨rfl,rfl,rfl,nlr _,λ_ _ _=>rfl⟩
 ·refine⟨rfl,rfl,rfl,?_,λk hk hne=> ?_⟩
  ·show w.heap.size<=(w.heap.modify g _).size;rw[Array.size_modify];exact nlr _
  ·have:g≠k:=λe=>hne (by rw[e])
   show (w.heap.modify g _)[k]? =w.heap[k]?;rw[Array.getElem?_modify,ine this]
theorem qgp{p:Program}{fits:TypeId->Bool}{e:TypeId}{c c' off n:Nat}(hc:c<=c'): ∀d,rowAt p fits d e c off n=true->rowAt p fits d e c' off n=true:=by
 intro d;cases d with
 |zero=>exact id
 |succ d=>
  unfold rowAt;simp only;split
  ·exact id
  ·intro h;rw[Bool.or_eq_true]at h ⊢;rcases h with h|h
   ·refine .inl ?_;simp only[Bool.and_eq_true,decide_eq_true_iff]at h ⊢;exact⟨⟨h.1.1,om⟩,h.2⟩
   ·refine .inr ?_;rw[Bool.and_eq_true]at h ⊢;exact⟨by simp only[decide_eq_true_iff]at h ⊢;omega,h.2⟩
theorem qaA{p:Program}{e u:TypeId}{c c' off n:Nat}(hc:c<=c'): ∀d,liesAt p d e c off u n=true->liesAt p d e c' off u n=true:=by
 intro d
 induction d generalizing u n with
 |zero=>exact id
 |succ d ih=>
  unfold liesAt;intro h;rw[Bool.or_eq_true]at h ⊢;rcases h with h|h
  ·exact .inl (qgp hc _ h)
  ·refine .inr ?_;split at h
   ·exact ih h
   ·cases h
theorem qAB(n:Nat)(hn:2<=n):liesAt Tryz.prog Tryz.prog.depth 158 (n/Tryz.prog.cellsOf 158) 0 158 1=true:=by
 have e1:Tryz.prog.cellsOf 158=2:=by kernel_rfl
 have h1:liesAt Tryz.prog Tryz.prog.depth 158 1 0 158 1=true:=by kernel_rfl
 rw[e1];exact qaA om _ h1
theorem ccS(kb vb:Nat)(A B:AV)(h:we)(hk:qt kb h=some (.mem vb 158 [A,B]))(hA:A= .nilp∨A= .op kb vb 0):ACalls Tryz.prog 159 [.op kb vb 0] h (.tup []) (qo kb h (.mem vb 158 [.op kb vb 0,B])):=by
 refine⟨qnE Tryz.func159 (by kernel_rfl) (by kernel_rfl),λw σ xs H hv=> ?_⟩;obtain⟨x,rfl,hx⟩:=hv.one;have hc:=qM hk;obtain⟨cs,o,b,arr,g1,rfl,g2,g3,g4,g5,g6,g7,g9,g8⟩:=ko H hx (by rw[hc];rfl);rw[hc]at g1;cases g1;have hobj:=H.obj kb _ o hk g2;obtain⟨_,hty,_⟩:=hobj;rw[hty]at g5;have g5b:=g5;have g5:=g5.plain (by decide);have hsz:2<=arr.size:=g7;have hc0:w.cell? ⟨b,0,none⟩=some arr[0]:=by rw[jT g5b];simp
 have hA0:=g8 0 A arr[0] rfl (by simp);have hsh:w.shape? b=some (158,arr.size):=by simp[World.shape?,g5]
 have hfz:w.frozen? ⟨b,0,none⟩=false:=by simp[World.frozen?,g5]
 have hkl:=zD hk;rcases hA with rfl|rfl
 ·rw[qcm hA0]at hc0;refine (callsIn_wide.2 (qeG b 0 158 arr.size w hc0 om hsh hfz (qAB _ hsz))).mono ?_;rintro e w' ⟨rfl,rfl⟩;have hg:w.grownBy (w.setCell ⟨b,0,none⟩ (.pointer (some ⟨b,0,none⟩))) o.blk:=by rw[g4];exact grownBy_setCell' w b _
  have hh:=heap_setCell_same w b 0 arr 158 (.pointer (some ⟨b,0,none⟩)) g5;obtain⟨u1,u2⟩:=H.update (o':=o) (a':= .mem vb 158 [.op kb vb 0,B]) g2 hg (nlr _) (λ_=>rfl)
   (by intro b' e;rw[g4]at e;cases e;exact⟨.inl g4,(Array.getElem?_eq_some_iff.1 hh).1⟩) (λb' r e hr=>by rw[g4]at e;cases e;rw[g5]at hr;cases hr)
   (λe=>⟨g3,hty,b,_,g4,by rw[hty];exact .mk hh,by simp[g6],by simp;exact hsz,λi y hi hy=>by
    simp only[Array.getElem?_setIfInBounds]at hy;split at hy
    ·split at hy
     ·cases hy;rfl
     ·cases hy
    ·exact g9 i y (by simpa using hi) hy,λi c y hc hy=>by
    simp only[Array.getElem?_setIfInBounds]at hy;split at hy
    ·rename_i e0;split at hy
     ·cases hy;subst e0;simp at hc;subst hc;have hko:(σ.set kb o)[kb]? =some o:=by rw[List.getElem?_set_self (by rw[H.len];exact hkl)]
      exact .op o hko ⟨_,rfl⟩ om (λ_=>⟨b,g4,rfl⟩)
     ·cases hy
    ·rename_i e0;have hne:i≠0:=λe1=>e0 e1.symm
     have hcs: [.op kb vb 0,B]= [.nilp,B].set 0 (.op kb vb 0):=rfl;rw[hcs,List.getElem?_set_ne (λe1=>hne e1.symm)]at hc
     exact (g8 i c y hc hy).ext e⟩)
  exact⟨_,_,rfl,u1,.imm (.tup rfl (λi c x hc=>by simp at hc)),u2⟩
 ·obtain⟨o',q1,q2,q3⟩:=qs8 hA0;rw[g2]at q1;cases q1;obtain⟨b',q4,q5⟩:=q3 g3;rw[g4]at q4;cases q4;rw[q5]at hc0;refine (callsIn_wide.2 (qin b 0 w hc0)).mono ?_;rintro e w' ⟨rfl,rfl⟩;rw[jE hk];exact⟨_,σ,rfl,H,.imm (.tup rfl (λi c x hc=>by simp at hc)),Ext.refl w' σ⟩
theorem qbx{kb vb kj v m:Nat}{h:we}{s:List UInt8}(hkl:kb<h.length)(hjl:kj<h.length): ∀o∈qo kj (qo kb h (.mem vb 158 [.op kb vb 0,.osl kj v 1 0 m])) (qaQ v s),o∈h∨lowO h.length o:=by
 intro o ho;rcases jg ho with h1|rfl
 ·rcases jg h1 with h2|rfl
  ·exact .inl h2
  ·right;intro c hc;simp only[List.mem_cons,List.not_mem_nil,or_false]at hc;rcases hc with rfl|rfl
   ·simpa[qR] using hkl
   ·simpa[qR] using hjl
 ·exact .inr (jb v s _)
theorem qDj(kb vb kj v:Nat)(A:AV)(s u:List UInt8)(h:we)(hne:kj≠kb)(hk:qt kb h=some (.mem vb 158 [A,.osl kj v 1 0 s.length]))(hA:A= .nilp∨A= .op kb vb 0)(hj:qt kj h=some (qaQ v s))(hl:s.length+u.length<=140737488355328):
  ACalls Tryz.prog 118 [.op kb vb 0,.str u] h (.tup [.int .i64 u.length,.nilif]) (qo kj (qo kb h (.mem vb 158 [.op kb vb 0,.osl kj (v+1) 1 0 (s.length+u.length)])) (qaQ (v+1) (s++u))):=by
 have hkl:=zD hk;have hjl:=zD hj;have hne':kb≠kj:=λe=>hne e.symm
 have hk1: ∀l,qt kb (h++l)=some (.mem vb 158 [A,.osl kj v 1 0 s.length]):=λl=>by rw[zk hkl,hk]
 refine acO qvU ?_;simp (disch:=omega) only[quj,go_sem];refine qy (ccS kb vb A _ _ (hk1 _) hA) ⟨rfl,trivial⟩ ?_
 by_cases hs:s= []
 ·subst hs;rw[U7]at hj;simp (disch:=omega) only[zw,jk,qP,qbI,qbJ,qb2,qb3,zO,jl,ql,qbf,hj,go_sem];refine⟨om,⟨by simp,by simp at hl;omega⟩,?_⟩;rw[qby hne',qqu];refine RU ⟨trivial,trivial,trivial⟩ (by simp only[qK]) (qbx hkl hjl) ⟨rfl,?_⟩ (qi);simp
 ·rw[Tm hs]at hj;simp (disch:=omega) only[zw,jk,qP,qbI,qbJ,qb2,qb3,zO,jl,ql,SY,hj,jx,go_sem]
  repeat' first|(with_reducible apply aiA)
  all_goals first
   |omega
   |(simp[jx];done)
   |skip
  rw[qby hne',ltl (by simp[jx]),<-qa5,<-Tm (by simp[hs])];exact RU ⟨trivial,trivial,trivial⟩ (by simp only[qK]) (qbx hkl hjl) ⟨rfl,rfl⟩ (qi)
theorem qCY(kb vb kj v:Nat)(A:AV)(s:List UInt8)(h:we)(hne:kj≠kb)(hk:qt kb h=some (.mem vb 158 [A,.osl kj v 1 0 s.length]))(hj:qt kj h=some (qaQ v s)):
  ACalls Tryz.prog 116 [.op kb vb 0] h (.str s) (qo kj h (.emp (v+1))):=by
 refine⟨qnE Tryz.func116 (by kernel_rfl) (by kernel_rfl),λw σ xs H hv=> ?_⟩;obtain⟨x,rfl,hx⟩:=hv.one;have hc:=qM hk;obtain⟨cs,o,b,arr,g1,rfl,g2,g3,g4,g5,g6,g7,g9,g8⟩:=ko H hx (by rw[hc];rfl);rw[hc]at g1;cases g1;have hty:=(H.obj kb _ o hk g2).2.1;rw[hty]at g5;have g5b:=g5;have g5:=g5.plain (by decide);have hsz:2<=arr.size:=g7;have hc1:w.cell? ⟨b,0+1,none⟩=some arr[0+1]:=by rw[jT g5b];simp
 have hB:=g8 (0+1) _ arr[0+1] rfl (by simp);obtain⟨oj,j1,j2,j3⟩:=qlP hB;have hobj:=H.obj kj _ oj hj j1;have hkj:=zD hj
 by_cases hs:s= []
 ·subst hs;rw[U7]at hj hobj;obtain⟨m1,m2⟩:=hobj;rcases j3 m1 with⟨_,_,_,e⟩|⟨b',cap,e,_⟩
  ·rw[e]at hc1;refine (callsIn_wide.2 (qfj b 0 w hc1)).mono ?_;rintro e w' ⟨rfl,rfl⟩;obtain⟨u1,u2⟩:=H.update (w':=w.drew) (o':= { oj with blk:=none,ver:=v+1 }) (a':= .emp (v+1)) j1 ⟨rfl,rfl,rfl,nlr _,λ_ _ _=>rfl⟩ (by simp only;omega) (by simp only;omega) (by intro b' e;cases e) (λb' r e hr=>⟨r,hr⟩) (λ_=>⟨rfl,rfl⟩);exact⟨_,_,rfl,u1,.imm .str,u2⟩
  ·rw[m2]at e;cases e
 ·rw[Tm hs]at hj hobj;obtain⟨m1,m2,bj,arrj,m3,m4,m5,m6,m7,m8⟩:=hobj;rcases j3 m1 with⟨e,_⟩|⟨b',cap,e1,e2,e3,e4,e5⟩
  ·rw[m3]at e;cases e
  ·rw[m3]at e1;cases e1;rw[e2]at hc1;rw[m2]at m4;have m4b:=m4;have m4:=m4.plain (by decide);rw[jx]at m6;refine (callsIn_wide.2 (qfk b 0 bj cap s arrj w hs hc1 m4 e3 e4 om (λj x hx=> ?_))).mono ?_
   ·have hjl:j<s.length:=(lgs.1 hx).1;rw[jT m4b];have ea:arrj[j]? =some arrj[j]:=by simp
    have:=m8 j (.int .u8 x.toNat) arrj[j] (by simp[zz,hx]) ea
    rw[ea,zH this]
   ·rintro e w' ⟨rfl,rfl⟩;have hg:w.grownBy (w.drew.freeze ⟨bj,0,none⟩ s.length) oj.blk:=by
     rw[m3];exact UL w bj s.length
    obtain⟨u1,u2⟩:=H.update (o':= { oj with blk:=none,ver:=v+1 }) (a':= .emp (v+1)) j1 hg (by simp only;omega) (by simp only;omega) (by intro b' e;cases e)
     (λb' r e hr=>by rw[m3]at e;cases e;rw[m4]at hr;cases hr) (λ_=>⟨rfl,rfl⟩)
    exact⟨_,_,rfl,u1,.imm .str,u2⟩
end HY
end
section
open Go Go.Proofs AF
def Um:List Nat:= [118,116,307,285,244,282,245,283,247]
def qvi:C:=
 (vS [MV 7 0,O1 8 .len 7,vM 9 0] (C.block 0 (vS [BI 10 .lss 9 8] ((vU 10 0).seq ((C.block 1 (vS [O2 11 (.idxA 4) 7 9,O1 12 (.load (some 4)) 11,⟨some 5,none,.alloc 0 198 [i6
 0,.str [],i6 0,.nl],[]⟩,ST 4 5 12] (vS [vL 13 0 5,LD 14 13,O1 15 (.gix 4 12 4) 14,O1 16 (.load (some 4)) 15,⟨some 6,none,.alloc 1 324 [.str [],.bool false,.bool false,.bool
 false],[]⟩,ST 4 6 16] (C.block 2 (vS [vL 26 0 5,LD 27 26,vN 28 .eql 27 1,MV 25 28] (C.cond (.t 25) (vW [vL 29 1 5,LD 30 29,O2 31 (.call 118 false) 1 30]) (vS [vL 33 3 6,LD 34
 33,MV 32 34] (C.cond (.t 32) (vS [vL 35 0 6,LD 36 35,ON 37 (.bin .add) [.c (.str [60]),.t 36],O1 38 (.load (some 4)) 5,O1 39 (.call 305 true) 38,BI 40 .add 37 39,BC 41 .add 40
 (.str [62]),O2 42 (.call 118 false) 1 41] (vS [LD 43 2,vL 44 3 5,LD 45 44,O2 46 .callv 43 45] (vW [vL 47 0 6,LD 48 47,ON 49 (.bin .add) [.c (.str [60,47]),.t 48],BC 50 .add 49
 (.str [62]),O2 51 (.call 118 false) 1 50]))) (vW [vL 17 0 6,LD 18 17,ON 19 (.bin .add) [.c (.str [60]),.t 18],O1 20 (.load (some 4)) 5,O1 21 (.call 305 true) 20,BI 22 .add 19
 21,BC 23 .add 22 (.str [47,62]),O2 24 (.call 118 false) 1 23]))))))))).seq (vW [vN 52 .add 9 1,MV 9 52])))).loop))
theorem qwZ:qJ Tryz.prog 304 53 2 [] qvi:=fi Tryz.f304 [5,6] Um []
@[go_sem]def vh:DT:= DT.one ⟨some 22,none,.nilchk,[.t 10]⟩ (DT.one ⟨some 23,none,.fldA 5,[.t 22]⟩ (DT.one ⟨none,none,.store 1,[.t 23,.t 19]⟩ DT.nil))
@[go_sem]def vg:DT:= DT.one ⟨some 17,some (15,false),.load none,[.t 16]⟩ (DT.one ⟨some 18,some (15,false),.bin .eql,[.t 17,.c (i6 5)]⟩ (DT.one ⟨some 19,none,.pick,[.t 15,.c (.bool true),.t 18]⟩ vh))
def qu2:C:=
 (vS [O1 3 (.box 0 269) 1] (vS [vL 5 0 3,LD 6 5] (C.block 0 (vS [vN 25 .eql 6 1,MV 24 25] (C.cond (.t 24) (vW [MV 26 0,O1 27 (.load (some 7)) 3,O2 28 (.call 282 false) 26 27])
 (vS [vN 30 .eql 6 6,MV 29 30] (C.cond (.t 29) (vS [MV 31 0,O1 32 (.call 245 false) 31] (vS [vM 4 2] ((vS [vL 33 5 3,LD 34 33] (vT 34 (vW [MV 35 4,vN 36 .or 35 1,MV 4 36]))).seq
 (vS [MV 37 0,O1 38 (.load (some 7)) 3,MV 39 4,ON 40 (.call 283 false) [.t 37,.t 38,.t 39]] (vW [MV 41 0,O1 42 (.call 284 true) 41,vL 43 2 3,LD 44 43,O1 45 (.call 115 true)
 44,ON 46 (.bin .add) [.c (.str [91]),.t 45],BC 47 .add 46 (.str [93]),O1 48 .nilchk 42,vL 49 0 48,ST 1 49 47]))))) (vS [MV 7 0,O1 8 (.call 245 false) 7] (C.draw (DT.one ⟨some
 9,none,.mv,[.t 0]⟩ (DT.one ⟨some 10,none,.mv,[.t 0]⟩ (DT.one ⟨some 11,none,.mv,[.t 0]⟩ (DT.one ⟨some 12,none,.nilchk,[.t 11]⟩ (DT.one ⟨some 13,none,.fldA 5,[.t 12]⟩ (DT.one
 ⟨some 14,none,.load none,[.t 13]⟩ (DT.one ⟨some 15,none,.mv,[.t 14]⟩ (DT.one ⟨some 20,none,.nilchk,[.t 9]⟩ (DT.one ⟨some 21,none,.fldA 4,[.t 20]⟩ ((DT.one ⟨some 16,some
 (15,false),.fldA 0,[.t 3]⟩ ((DT.one ⟨some 17,some (15,false),.load none,[.t 16]⟩ (DT.one ⟨some 18,some (15,false),.bin .eql,[.t 17,.c (i6 5)]⟩ (DT.one ⟨some 19,none,.pick,[.t
 15,.c (.bool true),.t 18]⟩ (DT.one ⟨none,none,.store 1,[.t 21,.c (.bool false)]⟩ vh)))).two (DT.one ⟨none,none,.store 1,[.t 21,.c (.bool false)]⟩ vg))).two (DT.one
 ⟨none,none,.store 1,[.t 21,.c (.bool false)]⟩ (DT.one ⟨some 16,some (15,false),.fldA 0,[.t 3]⟩ vg)))))))))))))))))))))
theorem qwH:qJ Tryz.prog 244 50 1 [] qu2:=fi Tryz.f244 [3] Um []
def qqE:C:=
 ((vS [MV 2 0,O1 3 .nilchk 2,vL 4 3 3,LD 5 4] (vT 5 (vW [MV 6 0,O1 7 (.call 284 true) 6,MV 8 0,O1 9 .nilchk 8,vL 10 1 9,O1 11 (.call 116 false) 10,O1 12 .nilchk 7,vL 13 0 12,ST 1
 13 11]))).seq (vS [MV 14 0,O1 15 .nilchk 14,vL 16 3 15,⟨none,none,.store 1,[.t 16,.c (.bool false)]⟩] (vW [MV 17 0,O1 18 .nilchk 17,vL 19 1 18,O1 20 (.call 285 false) 19])))
theorem qpH:qJ Tryz.prog 245 21 0 [] qqE:=fi Tryz.f245 [] Um []
@[go_sem]def vk:DT:= DT.one ⟨some 38,none,.app 2 6 92 80,[.t 30,.t 37]⟩ (DT.one ⟨some 39,none,.nilchk,[.t 26]⟩ (DT.one ⟨some 40,none,.fldA 0,[.t 39]⟩ (DT.one ⟨none,none,.store 1,[.t 40,.t 38]⟩
 DT.nil)))
@[go_sem]def vm:DT:= DT.one ⟨some 30,none,.load none,[.t 29]⟩ vk
def qmp:C:=
 (vS [O1 4 (.box 0 269) 1] ((vS [MV 6 0,O1 7 .nilchk 6,vL 8 4 7,LD 9 8,MV 10 9,MG 11 10 true 0,P1 12 10 true .nilchk 11,P1 13 10 true (.fldA 0) 12,P1 14 10 true (.load none)
 13,P1 15 10 true .len 14,PC 16 10 true (.bin .gtr) 15 (i6 0),PF 17 10 16] (vT 17 (vW [MV 18 2,vN 19 .or 18 16,MV 2 19]))).seq ((vS [MV 20 0,O1 21 .nilchk 20,vL 22 5 21,LD 23
 22] (vT 23 (vW [MV 24 2,vN 25 .or 24 4,MV 2 25]))).seq ((C.draw (DT.one ⟨some 26,none,.mv,[.t 0]⟩ (DT.one ⟨some 27,none,.mv,[.t 0]⟩ (DT.one ⟨some 31,none,.fldA 3,[.t 4]⟩
 (DT.one ⟨some 32,none,.load (some 2),[.t 31]⟩ (DT.one ⟨some 33,none,.mv,[.t 2]⟩ (DT.one ⟨some 34,none,.fldA 6,[.t 4]⟩ (DT.one ⟨some 35,none,.load none,[.t 34]⟩ (DT.one ⟨some
 36,none,.build [.str [],.str [],.str [],i6 0,i6 0,.str []] [(2,2),(4,1),(5,1)],[.t 32,.t 33,.t 35]⟩ ((DT.one ⟨some 28,none,.nilchk,[.t 27]⟩ ((DT.one ⟨some 29,none,.fldA 0,[.t
 28]⟩ ((DT.one ⟨some 30,none,.load none,[.t 29]⟩ (DT.one ⟨some 37,none,.bslc 1 6 1 92 [.str [],.str [],.str [],i6 0,i6 0,.str []] [(0,6)],[.t 36]⟩ vk)).two (DT.one ⟨some
 37,none,.bslc 1 6 1 92 [.str [],.str [],.str [],i6 0,i6 0,.str []] [(0,6)],[.t 36]⟩ vm))).two (DT.one ⟨some 37,none,.bslc 1 6 1 92 [.str [],.str [],.str [],i6 0,i6 0,.str []]
 [(0,6)],[.t 36]⟩ (DT.one ⟨some 29,none,.fldA 0,[.t 28]⟩ vm)))).two (DT.one ⟨some 37,none,.bslc 1 6 1 92 [.str [],.str [],.str [],i6 0,i6 0,.str []] [(0,6)],[.t 36]⟩ (DT.one
 ⟨some 28,none,.nilchk,[.t 27]⟩ (DT.one ⟨some 29,none,.fldA 0,[.t 28]⟩ vm))))))))))))).seq (vW [MV 41 0,MV 42 0,O1 43 .nilchk 41,vL 44 4 43,⟨none,none,.store 1,[.t 44,.c (.bool
 true)]⟩,O1 45 .nilchk 42,vL 46 5 45,⟨none,none,.store 1,[.t 46,.c (.bool false)]⟩])))))
theorem qja:qJ Tryz.prog 283 47 3 [] qmp:=fi Tryz.f283 [4,37,38] Um []
def qvf:C:=
 (vS [MV 2 0,O1 3 .nilchk 2,vL 4 0 3,⟨none,none,.store 1,[.t 4,.c .nilp]⟩] (vW [MV 5 0,O1 6 .nilchk 5,vL 7 1 6,⟨none,none,.store 1,[.t 7,.c .nl]⟩]))
theorem qwV:qJ Tryz.prog 285 8 0 [] qvf:=fi Tryz.f285 [] Um []
def qu3:C:=
 (vS [ON 4 (.nilo 0 6 92) [],vM 5 0] ((vS [MV 9 1,O1 10 .len 9,vM 11 0] (C.block 0 (vS [BI 12 .lss 11 10] ((vU 12 0).seq ((C.block 1 (vS [MV 13 11,MV 6 13] (vS [MV 14 1,MV 15
 6,MV 16 1,MV 17 6,O2 18 (.idxA 6) 16 17,vL 19 0 18,LD 20 19,O2 21 (.idxA 6) 14 15,vL 22 1 21,ST 1 22 20] ((vS [MV 23 1,MV 24 6,O2 25 (.idxA 6) 23 24,O1 26 (.load (some 6))
 25,O1 27 (.call 232 true) 26,O1 28 (.un UnOp.not) 27] (vT 28 (C.exit 1))).seq (vS [MV 30 0,MV 31 1,MV 32 6,O2 33 (.idxA 6) 31 32,vL 34 0 33,LD 35 34,O2 36 (.call 286 true) 30
 35,MV 29 36,O1 37 (.ext 0) 29,O1 38 (.ext 1) 29,MV 7 37,MV 8 38] ((vS [MV 39 8,vN 40 .neq 39 0] (vT 40 (vV [MV 41 8,ON 4 (.nilo 0 6 92) [],MV 5 41]))).seq (vW [MV 42 1,MV 43
 6,MV 44 7,O2 45 (.idxA 6) 42 43,vL 46 1 45,ST 1 46 44]))))))).seq (vW [vN 47 .add 11 1,MV 11 47])))).loop)).seq (vV [MV 48 1,MV 4 48,vM 5 0])))
theorem qwI:qJ Tryz.prog 247 49 1 [RV.tmp 4,RV.tmp 5] qu3:=fi Tryz.f247 [4] Um []
end
section
open Go Go.Proofs AF HY LN
namespace RC
theorem itN(s:Str):qlT Tryz.prog 302 [.ip [jW s]] [[.agg (plC s)]]:=by
 intro h ts LI S E hS hE body start hts;have hb:(h++ [AObj.lp LS.ready ts LI]).length=h.length+1:=by simp
 have ea: ∀st,h++ [AObj.lp st ts LI]++ [.mem 1 321 [.yld h.length],.mem 1 322 [.fn (.func 303) [] [.op (h.length+1) 1 0,.op (h.length+2) 1 0]]]=h++ [AObj.lp st ts LI,cyl h.length,cwk h.length]:=λst=>by simp[cyl,cwk]
 refine acQ qwY ?_;simp (disch:=omega) only[qvh,jW,go_sem]
 repeat' first|with_reducible apply aiA|exact clz|fail
 simp only[hb,Nat.add_assoc,Nat.reduceAdd,ea];refine qii (wlk1 s h ts LI S E hS hE body start hts) ?_;rintro v h' ⟨hh',⟨rfl,hn,rfl⟩|⟨st,rfl,hs',rfl⟩⟩
 ·simp (disch:=omega) only[go_sem];obtain⟨r1,r2⟩:=(hS _ _ hn).retX (L:=LI) (xs:= []) .ready hts;have eO:hh'++ [.lp .ready ts LI,cyl h.length,cwk h.length]=(hh'++ [.lp .ready ts LI])++ [cyl h.length,cwk h.length]:=by simp
  rw[eO];exact zL trivial r1 r2 ⟨hh',.inl ⟨hn,rfl⟩⟩ (qi)
 ·simp (disch:=omega) only[go_sem];obtain⟨r1,r2⟩:=(hE _ _ hs').retX (L:=LI) (xs:= []) st hts;have eO:hh'++ [.lp st ts LI,cyl h.length,cwk h.length]=(hh'++ [.lp st ts LI])++ [cyl h.length,cwk h.length]:=by simp
  rw[eO];exact zL trivial r1 r2 ⟨hh',.inr ⟨st,hs',rfl⟩⟩ (qi)
theorem qsl(s:Str)(h:we):ACalls Tryz.prog 276 [jW s] h (.fn (.func 302) [] [.ip [jW s]]) h:=by
 refine acO qwP ?_;simp (disch:=omega) only[qu9,jW,ndC,go_sem]
 repeat' first|exact v7|fail
theorem qCU(n:Int)(k v:Nat)(h:we)(hk:qt k h=some (.mem v 3 [.int .i64 n]))(h0:1<=n)(h1:n<=4096):ACalls Tryz.prog 275 [.op k v 0] h (.bool true) (qo k h (.mem v 3 [.int .i64 (n-1)])):=by
 have hkl:=zD hk;have c1:=qM hk;have k1:(0<=n-1)=True:=wh;have ht:qlZ (qt k h)=3:=by rw[hk];rfl
 refine acO qwO ?_;simp (disch:=omega) only[qu8,c1,k1,go_sem]
 repeat' first|with_reducible apply aiA|exact clz|fail
 rw[ht];exact qeS ⟨trivial,trivial⟩ qK (qnx (λn c hc=>by simp at hc;subst hc;rfl)) ⟨rfl,rfl⟩ (qi)
theorem qdX(s:Str)(v:Nat)(ty:TypeId): ∀n,lowO n (.mem v ty (plC s)):=λn c hc=>by
 simp[plC]at hc;rcases hc with rfl|rfl|rfl|rfl|rfl|rfl<;>rfl
theorem qBB(s:Str)(k:Int)(h:we)(h1:2<=k)(h2:k<=11)(hc: ∀l,ACalls Tryz.prog 240 [jW s] (h++l) (.int .i64 0) (h++l)):ACalls Tryz.prog 242 [jW s,.int .i64 k] h (.tup [.int .i64 0,.int .i64 0]) h:=by
 have c1:=λh=>qsl s h
 have k1:(k<1)=False:=wi;have k2:(11<k)=False:=wi;have k3:((1:Int)=k)=False:=wi;unfold jW at c1 hc;refine acO qwF ?_;simp (disch:=omega) only[qu0,jW,go_sem]
 repeat' first|((first|refine cA (hc _) ?_ ?_|refine cA (c1 _) ?_ ?_);exact flk;simp (disch:=omega) only[k1,k2,go_sem])|with_reducible apply aiA|exact clz|fail
 refine zg (xs:= [[.agg (plC s)]]) (itN s) (by simp)
  (S:=λi hh=> ∃O,qI [O] 0=true∧(∀n,lowO n O)∧hh=h++ [.mem 1 3 [.int .i64 k],.mem 1 3 [.int .i64 0],O]) (E:=λ_ _=>False) ?_ ?_ ?_ ?_ ?_ ?_ ?_
 ·rintro i hh ⟨O,_,l1,rfl⟩;refine LowI.app rfl (λo ho=> ?_);simp only[List.mem_cons,List.not_mem_nil,or_false]at ho;rcases ho with rfl|rfl|rfl
  ·left;simp
  ·left;simp
  ·right;exact⟨l1 _,l1 _⟩
 ·intro s hh hf;exact hf.elim
 ·exact⟨.emp 0,rfl,λ_=>trivial,rfl⟩
 ·simp[qR,qR.lowVs]
  try omega
 ·rintro i hh tl LI TS hi ⟨O,s1,l1,rfl⟩ hlen K K2 hK hN hR' hX;obtain rfl:i=0:=by simp at hi;omega
  have s1': ∀m,qI (O::m) 0=true:=λ_=>s1
  show qU _ _ _ _ (kr _ _ [.agg (plC s)]) _;simp only[kr];simp (disch:=omega) only[List.append_assoc,plC,s1',go_sem];refine hK _ _ (h++ [.mem 1 3 [.int .i64 k],.mem 1 3 [.int .i64 0],.mem (qq (some O)+1) 303 (plC s)]) (by simp[plC]) (by simp) ?_;simp (disch:=omega) only[List.append_assoc,plC,k3,go_sem]
  repeat' first|with_reducible apply aiA|exact clz|fail
  refine hN _ _ (h++ [.mem 1 3 [.int .i64 k],.mem 1 3 [.int .i64 0],.mem (qq (some O)+1) 303 (plC s)]) (by simp[plC]) (by simp) ⟨.mem (qq (some O)+1) 303 (plC s),rfl,qdX s _ _,rfl⟩
 ·rintro hh ⟨O,s1,l1,rfl⟩;simp (disch:=omega) only[go_sem]
  repeat' first|exact v7|with_reducible apply aiA|exact clz|fail
 ·intro e hh hf;exact hf.elim
end RC
end
section
open Go Go.Proofs AF
def qrI:List Nat:= [118,116,307,285,244,282,245,283,247]
def qvb:C:=
 (vS [MC 2 (.str [])] (vS [⟨some 3,none,.alloc 0 158 [.nilp,.nl],[]⟩] (vS [⟨some 4,none,.alloc 1 326 [.nilfn],[]⟩] (vS [O2 5 (.mkfn (Fn.func 304) 0) 3 4,ST 1 4 5] ((C.wk.seq (vW
 [LD 6 4,MV 7 0,O2 8 .callv 6 7])).seq (vV [O1 9 (.call 116 false) 3,MV 2 9]))))))
theorem qwR:qJ Tryz.prog 278 10 3 [RV.tmp 2] qvb:=fi Tryz.f278 [3,4,8] qrI [4]
end
section
open Go Go.Proofs AF HY LN
namespace RC
theorem qDk(s:Str)(kb vb kj v kw:Nat)(h:we)(hne:kj≠kb)(hk:qt kb h=some (.mem vb 158 [.nilp,.osl kj v 1 0 0]))(hj:qt kj h=some (.emp v))(hl:s.length<=1000000)(hs:s≠ [])(hg:zQ h frmN frmC):
  ACalls Tryz.prog 304 [jW s,.op kb vb 0,.op kw 1 0] h (.tup []) (qo kj (qo kb h (.mem vb 158 [.op kb vb 0,.osl kj (v+1) 1 0 s.length])) (qaQ (v+1) s)):=by
 have hkl:=zD hk;have hjl:=zD hj;refine acO qwZ ?_;simp (disch:=omega) only[qvi,jW,ndC,go_sem];obtain⟨H1,hH1⟩:=wc (qo kj (qo kb h (.mem vb 158 [.op kb vb 0,.osl kj (v+1) 1 0 s.length])) (qaQ (v+1) s))
 rw[<-hH1];have hH1l:H1.length=h.length:=by rw[hH1];simp only[qK]
 refine qr (T:=λi:Nat×AObj×AObj=>qX 53 [(1,.op kb vb 0),(2,.op kw 1 0),(7,jW s),(8,.int .i64 ((1:Nat):Int)),(9,.int .i64 i.1)])
  (H:=λi=>(if i.1=0 then h else H1)++ [i.2.1,i.2.2])
  (inv:=λi=>i.1<=1∧qI [i.2.1] 0=true∧qI [i.2.2] 0=true) (m:=λi=>1-i.1) (0,.emp 0,.emp 0) ⟨nzl _,rfl,rfl⟩ (Wk.temps ?_) ?_
 ·(simp only[jW,ndC,go_sem,qg,qc,qa,qf];try exact wa)
 rintro⟨i,O5,O6⟩ ⟨i1,i2,i3⟩ K hK;simp only at i1 i2 i3 hK;have i2': ∀m,qI (O5::m) 0=true:=λ_=>i2
 have i3': ∀m,qI (O6::m) 0=true:=λ_=>i3
 by_cases hi:i<1
 ·obtain rfl:i=0:=by omega
  simp only[if_true];simp (disch:=omega) only[jW,ndC,i2',go_sem]
  repeat' first|(with_reducible first|intro _|apply aiA)|exact clz|fail
  refine qpS (cs:=frmC) hg.app ⟨by decide,by decide⟩ rfl ?_;rw[qpO];simp (disch:=omega) only[qxn,i3',go_sem];refine qy (qDj kb vb kj v .nilp [] s _ hne (by rw[zk hkl];exact hk) (.inl rfl) (by rw[zk hjl];exact hj) (by simp;omega)) (by exact flk) ?_;have eH: ∀l,qo kj (qo kb (h++l) (.mem vb 158 [.op kb vb 0,.osl kj (v+1) 1 0 (([]:Str).length+s.length)])) (qaQ (v+1) ([]++s))=H1++l:=λl=>by
   rw[hH1,lnl,Nat.zero_add,lna,zw hkl,zw (by rw[qK];exact hjl)]
  rw[eH];simp (disch:=omega) only[go_sem];refine hK _ _ (1,.mem (qq (some O5)+1) 198 (ndC s),.mem (qq (some O6)+1) 324 qxn) ⟨nlr _,rfl,rfl⟩ (by simp only;omega) ?_;rw[ine (by simp)];simp only[ndC,qxn];refine Wk.temps ?_
  (simp only[jW,ndC,go_sem,qg,qc,qa,qf];try (repeat' first|(with_reducible apply aiA)|(apply qh;omega)|(apply qd;rfl)|exact qi))
 ·obtain rfl:i=1:=by omega
  rw[ine (by simp)];simp (disch:=omega) only[jW,ndC,go_sem]
  repeat' first|(with_reducible first|intro _|apply aiA)|exact clz|fail
  refine zL trivial hH1l ?_ ⟨rfl,rfl⟩ (qi);rw[hH1];exact qbx hkl hjl
theorem qAG(s:Str)(h:we)(hl:s.length<=1000000)(hs:s≠ [])(hg:zQ h frmN frmC):ACalls Tryz.prog 278 [jW s] h (.str s) h:=by
 refine acO qwR ?_;simp (disch:=omega) only[qvb,jW,go_sem];refine⟨_,_,Wk.ownNil (j:=h.length) (i:=1) (k:=h.length+2) (v:=1) (ty:=158) (cs:= [.nilp,.nl]) (ve:=0) (sz:=1) ?m1 rfl ?m2,?_⟩
 case m1=>simp only[go_sem]
 case m2=>simp only[go_sem]
 simp (disch:=omega) only[List.set_cons_zero,List.set_cons_succ,go_sem]
 repeat' first|with_reducible apply aiA|exact clz|fail
 refine kg (qDk s h.length 1 (h.length+2) 0 (h.length+1) _ om (by simp only[go_sem]) (by simp only[go_sem]) hl hs hg.app) ?_;simp (disch:=omega) only[go_sem];refine qy (qCY h.length 1 (h.length+2) 1 (.op h.length 1 0) s _ om (by simp only[go_sem]) (by simp only[go_sem])) (by exact flk) ?_;simp (disch:=omega) only[go_sem]
 repeat' first|exact v7|fail
theorem qzK(s:Str)(h:we)(hl:s.length<=1000000)(hl2:s.length<=65536)(hs:s≠ [])(hc:zR s=0)(hg:zQ h frmN frmC):ACalls Tryz.prog 240 [jW s] h (.int .i64 0) h:=by
 have c1:=λh=>qsl s h
 unfold jW at c1;obtain⟨cs,hcs⟩:=wc (AObj.mem 1 32 [.fn (.func 275) [] [.op (h.length+1) 1 0]])
 refine acO qwD ?_;simp (disch:=omega) only[quY,jW,go_sem]
 repeat' first|(refine cA (c1 _) flk ?_;simp (disch:=omega) only[go_sem])
 refine zg (xs:= [[.agg (plC s)]]) (itN s) (by simp)
  (S:=λi hh=> ∃O,qI [O] 0=true∧(∀n,lowO n O)∧hh=h++ [.mem 1 33 [.int .i64 0],.mem 1 3 [.int .i64 (4096-i)],cs,O,.emp 0]) (E:=λ_ _=>False) ?_ ?_ ?_ ?_ ?_ ?_ ?_
 ·rintro i hh ⟨O,_,l1,rfl⟩;refine LowI.app rfl (λo ho=> ?_);simp only[List.mem_cons,List.not_mem_nil,or_false]at ho;rcases ho with rfl|rfl|rfl|rfl|rfl
  ·left;simp
  ·right;exact⟨λc hc=>(by simp at hc;subst hc;rfl),λc hc=>(by simp at hc;subst hc;rfl)⟩
  ·left;rw[hcs];simp
  ·right;exact⟨l1 _,l1 _⟩
  ·left;simp
 ·intro s hh hf;exact hf.elim
 ·exact⟨.emp 0,rfl,λ_=>trivial,by rw[hcs];rfl⟩
 ·simp[qR,qR.lowVs]
  try omega
 ·rintro i hh tl LI TS hi ⟨O,s1,l1,rfl⟩ hlen K K2 hK hN hR' hX;obtain rfl:i=0:=by simp at hi;omega
  have s1': ∀m,qI (O::m) 0=true:=λ_=>s1
  show qU _ _ _ _ (kr _ _ [.agg (plC s)]) _;simp only[kr];simp (disch:=omega) only[List.append_assoc,plC,s1',go_sem];refine hK _ _ (h++ [.mem 1 33 [.int .i64 0],.mem 1 3 [.int .i64 4096],cs,.mem (qq (some O)+1) 303 (plC s),.emp 0]) (by simp[plC]) (by simp) ?_;rw[hcs];simp (disch:=omega) only[List.append_assoc,plC,go_sem]
  repeat' first|with_reducible apply aiA|exact clz|fail
  refine kg (qCU 4096 (h.length+1) 1 _ (by simp only[go_sem]) om om) ?_;simp (disch:=omega) only[go_sem]
  repeat' first|(with_reducible first|intro _|apply aiA)|exact clz|fail
  refine hN _ _ (h++ [.mem 1 33 [.int .i64 0],.mem 1 3 [.int .i64 4095],cs,.mem (qq (some O)+1) 303 (plC s),.emp 0]) (by rw[hcs];simp[plC]) (by simp) ⟨.mem (qq (some O)+1) 303 (plC s),rfl,qdX s _ _,rfl⟩
 ·rintro hh ⟨O,s1,l1,rfl⟩;have c2:=λh=>qsl s h
  unfold jW at c2;rw[hcs];simp (disch:=omega) only[go_sem]
  repeat' first|(refine cA (c2 _) flk ?_;simp (disch:=omega) only[go_sem])
  have c5:=λl=>qCM s (h++l) hs hl hc hg.app
  have c6:=λl=>qAG s (h++l) hl hs hg.app
  unfold jW at c6;unfold plC at c5;refine zg (xs:= [[.agg (plC s)]]) (itN s) (by simp)
   (S:=λi hh=> ∃O6,qI [O6] 0=true∧(∀n,lowO n O6)∧hh=h++ [.mem 1 33 [.int .i64 0],.mem 1 3 [.int .i64 4095],cs,O,O6]) (E:=λ_ _=>False) ?_ ?_ ?_ ?_ ?_ ?_ ?_
  ·rintro i hh ⟨O6,_,l2,rfl⟩;refine LowI.app rfl (λo ho=> ?_);simp only[List.mem_cons,List.not_mem_nil,or_false]at ho;rcases ho with rfl|rfl|rfl|rfl|rfl
   ·left;simp
   ·left;simp
   ·left;rw[hcs];simp
   ·left;simp
   ·right;exact⟨l2 _,l2 _⟩
  ·intro s hh hf;exact hf.elim
  ·exact⟨.emp 0,rfl,λ_=>trivial,by rw[hcs];rfl⟩
  ·simp[qR,qR.lowVs]
   try omega
  ·rintro i hh tl LI TS hi ⟨O6,s6,l6,rfl⟩ hlen K K2 hK hN hR' hX;obtain rfl:i=0:=by simp at hi;omega
   have s6': ∀m,qI (O6::m) 0=true:=λ_=>s6
   show qU _ _ _ _ (kr _ _ [.agg (plC s)]) _;simp only[kr];simp (disch:=omega) only[List.append_assoc,plC,s6',go_sem];refine hK _ _ (h++ [.mem 1 33 [.int .i64 0],.mem 1 3 [.int .i64 4095],cs,O,.mem (qq (some O6)+1) 303 (plC s)]) (by simp[plC]) (by simp) ?_;simp (disch:=omega) only[List.append_assoc,plC,go_sem]
   repeat' first|(refine cA (c5 _) flk ?_;simp (disch:=omega) only[go_sem])
   refine hN _ _ (h++ [.mem 1 33 [.int .i64 0],.mem 1 3 [.int .i64 4095],cs,O,.mem (qq (some O6)+1) 303 (plC s)]) (by simp[plC]) (by simp) ⟨.mem (qq (some O6)+1) 303 (plC s),rfl,qdX s _ _,rfl⟩
  ·rintro hh ⟨O6,s6,l6,rfl⟩;have k1:((65536:Int)<s.length)=False:=wi;simp (disch:=omega) only[go_sem]
   repeat' first|(refine cA (c6 _) flk ?_;simp (disch:=omega) only[k1,go_sem])|exact v7|fail
  ·intro e hh hf;exact hf.elim
 ·intro e hh hf;exact hf.elim
end RC
end
