import Derived.Test.YtiiegfkjmnoijaaGreatDoorK10
import Derived.Test.YtiiegfkjmnoijaaGreatDoorK11
import Derived.Shelf.Slices.In.SortAlone
import Derived.Shelf.Slices.In.CompactI
import Derived.Test.YtiiegfkjmnoijaaGreatDoorProg
import Derived.Test.YtiiegfkjmnoijaaGreatDoorK9
import Derived.Sort.OwnSortedInts
import Derived.Test.YtiiegfkjmnoijaaGreatDoorK3
import Derived.Test.YtiiegfkjmnoijaaGreatDoorK5
import Derived.Test.YtiiegfkjmnoijaaGreatDoorK8
import Derived.Lib.IndexMore
import Derived.Lib.CountLaws
import Derived.Laws.Strings3
import Derived.Test.YtiiegfkjmnoijaaGreatDoorK7
import Derived.Shelf.Strings.BuilderX
import Derived.Shelf.RegionOpenPlain
import Derived.Lib.Strings
import Derived.Lib.Slices
import Derived.Lib.Walk
import Derived.Lib.Builder
import Derived.Lib.AppendStr
import Derived.Lib.UnsafeStr
import Derived.Lib.MakeNoZero
import Derived.WalkKit
import Derived.Laws.Externs
set_option linter.all false
set_option maxHeartbeats 128000000
set_option maxRecDepth 100000
section
open Go Go.Proofs AF HY LN
namespace RC
theorem zh{α:Type}{L:List α}{a:α}{i:Nat}(h:i<L.length):L.getD i a∈L:=by
 rw[gdqA,zG h];exact List.getElem_mem h
theorem fF{α:Type}{L:List α}{a b:α}{i j:Nat}(h:j≠i):(L.set i b).getD j a=L.getD j a:=by
 rw[gdqA,List.getElem?_set,ine (λe=>h e.symm),gdqA]
theorem wX{α:Type}{L:List α}{a b:α}{i:Nat}(h:i<L.length):(L.set i b).getD i a=b:=by
 rw[gdqA,List.getElem?_set,ipo rfl,ipo h];rfl
def bgn(c:UInt8):Bool:=decide (kind c=1)||decide (kind c=3)
theorem bB{c:UInt8}(h:bgn c=true):xO c=true:=by
 unfold bgn at h;unfold xO;rw[Bool.or_eq_true]at h ⊢;rcases h with h|h
 ·exact .inl h
 ·exact .inr (by rw[h];rfl)
def tkF(f:Int)(w:Str):Tk:=⟨w,[],[],0,f,[]⟩
structure Bs where
 done:List Tk
 opn:Bool
 fl:Int
 word:Str
 jn:Bool
def Bs.fin(b:Bs):List Tk:=b.done++if b.opn=true then [tkF b.fl b.word] else []
def Bs.out(b:Bs):List Tk:=b.done++if b.opn=true then [tkF b.fl []] else []
def jfl(j:Bool)(n:Nat):Int:=if j=true∧0<n then 16 else 0
def Bs.stp(b:Bs)(c:UInt8):Bs:=
 if b.opn=true∧xO c=true then ⟨b.done,true,b.fl,b.word++ [c],b.jn⟩
 else if bgn c=true then ⟨b.fin,true,jfl b.jn b.fin.length,[c],true⟩
 else if kind c=6 then ⟨b.fin,false,0,[],false⟩
 else ⟨b.fin++ [tkF (8+jfl b.jn b.fin.length) [c]],false,0,[],true⟩
def bs0:Bs:=⟨[],false,0,[],false⟩
def bsL(s:Str):Bs:=s.foldl Bs.stp bs0
theorem oC(s:Str)(c:UInt8):bsL (s++ [c])=(bsL s).stp c:=by unfold bsL;rw[List.foldl_append];rfl
def tkN(t:Tk):Tk:=⟨t.text,t.text,t.page,t.line,t.flags,t.name⟩
def yu(s:Str):List Tk:=(bsL s).fin
def gW(s:Str):List Tk:=(yu s).map tkN
def EI(L:List Tk):Bool:=jx (λj=>decide (64<(L.getD j default).text.length)) L.length
def pP(s:Str):Int:=if EI (yu s)=true then 4 else 0
def TkG(t:Tk):Prop:=t=tkF t.flags t.text∧(((t.flags=0∨t.flags=16)∧ ∃c r,t.text=c::r∧bgn c=true∧ ∀b∈r,xO b=true)∨((t.flags=8∨t.flags=24)∧ ∃c,t.text= [c]∧bgn c=false∧kind c≠6))
structure VQ (s:Str) (b:Bs):Prop where
 cl:b.opn=false->b.word= []∧b.fl=0
 op:b.opn=true->TkG (tkF b.fl b.word)∧b.jn=true∧(b.fl=0∨b.fl=16)
 dn: ∀t∈b.done,TkG t
 len:b.fin.length<=s.length
 cat:(b.fin.map Tk.text).flatten=s.filter λc=> !decide (kind c=6)
theorem Bs.fin_ok{s:Str}{b:Bs}(h:VQ s b): ∀t∈b.fin,TkG t:=by
 intro t ht;unfold Bs.fin at ht;rcases List.mem_append.1 ht with ht|ht
 ·exact h.dn t ht
 ·split at ht
  ·rename_i ho;rw[List.mem_singleton]at ht;subst ht;exact (h.op ho).1
  ·cases ht
theorem Zv{c:UInt8}(h:xO c=true):kind c≠6:=by
 unfold xO at h;simp only[Bool.or_eq_true,decide_eq_true_eq]at h;omega
theorem lh(j:Bool)(n:Nat):jfl j n=0∨jfl j n=16:=by
 unfold jfl;split
 ·exact .inr rfl
 ·exact .inl rfl
theorem yI(s:Str)(c:UInt8):(s++ [c]).filter (λc=> !decide (kind c=6))=s.filter (λc=> !decide (kind c=6))++if kind c=6 then [] else [c]:=by
 rw[List.filter_append];congr 1
 by_cases h:kind c=6
 ·simp[h]
 ·simp[h]
theorem Rl{s:Str}{b:Bs}(h:VQ s b)(c:UInt8):VQ (s++ [c]) (b.stp c):=by
 have hf:=Bs.fin_ok h;have hl:=h.len;have hc:=h.cat;unfold Bs.stp;split
 ·rename_i g;obtain⟨g1,g2⟩:=g;obtain⟨⟨_,k1⟩,k2,k3⟩:=h.op g1;have kw: ∃e r,b.word=e::r∧bgn e=true∧ ∀x∈r,xO x=true:=by
   rcases k1 with⟨_,k⟩|⟨k,_⟩
   ·exact k
   ·exact absurd k (by have:(tkF b.fl b.word).flags=b.fl:=rfl;rw[this];omega)
  refine⟨λe=>(by cases e),λ_=>⟨⟨rfl,.inl ⟨k3,?_⟩⟩,k2,k3⟩,h.dn,?_,?_⟩
  ·obtain⟨e,r,e1,e2,e3⟩:=kw;refine⟨e,r++ [c],?_,e2,λx hx=> ?_⟩
   ·show b.word++ [c]=_;rw[e1];rfl
   ·rcases List.mem_append.1 hx with hx|hx
    ·exact e3 x hx
    ·rw[List.mem_singleton]at hx;subst hx;exact g2
  ·unfold Bs.fin at hl ⊢;simp only[g1,if_true,lap,lco,lnl]at hl ⊢;omega
  ·unfold Bs.fin at hc ⊢;rw[yI,ine (Zv g2),<-hc];simp[g1,tkF]
 rename_i g;split
 ·rename_i g2;have j:=lh b.jn b.fin.length;refine⟨λe=>(by cases e),λ_=>⟨⟨rfl,.inl ⟨j,c,[],rfl,g2,λx hx=>by cases hx⟩⟩,rfl,j⟩,hf,?_,?_⟩
  ·show (b.fin++ [_]).length<=_;simp only[lap,lco,lnl];omega
  ·show ((b.fin++ [tkF _ [c]]).map Tk.text).flatten=_;rw[yI,ine (Zv (bB g2)),List.map_append,List.flatten_append,hc];rfl
 rename_i g2;have g2:bgn c=false:=by simpa using g2
 split
 ·rename_i g3;refine⟨λ_=>⟨rfl,rfl⟩,λe=>(by cases e),hf,?_,?_⟩
  ·show (b.fin++ []).length<=_;simp only[lap,lnl,lco];omega
  ·show ((b.fin++ []).map Tk.text).flatten=_;rw[lan,yI,ipo g3,hc,lan]
 ·rename_i g3;have j:=lh b.jn b.fin.length;refine⟨λ_=>⟨rfl,rfl⟩,λe=>(by cases e),λt ht=> ?_,?_,?_⟩
  ·rcases List.mem_append.1 ht with ht|ht
   ·exact hf t ht
   ·rw[List.mem_singleton]at ht;subst ht;refine⟨rfl,.inr ⟨?_,c,rfl,g2,g3⟩⟩;show 8+jfl b.jn b.fin.length=8∨8+jfl b.jn b.fin.length=24;omega
  ·show (b.fin++ [_]++ []).length<=_;simp only[lap,lnl,lco];omega
  ·show ((b.fin++ [tkF _ [c]]++ []).map Tk.text).flatten=_;rw[lan,yI,ine g3,List.map_append,List.flatten_append,hc];rfl
theorem iC(s:Str):VQ s (bsL s):=by
 have key: ∀n,n<=s.length->VQ (s.take n) (bsL (s.take n)):=by
  intro n
  induction n with
  |zero=>intro _;exact⟨λ_=>⟨rfl,rfl⟩,λe=>(by cases e),λt ht=>(by cases ht),nlr _,rfl⟩
  |succ n ih=>
   intro hn;rw[List.take_add_one,zG hn];show VQ (s.take n++ [s[n]]) (bsL (s.take n++ [s[n]]));rw[oC];exact Rl (ih om) _
 have:=key s.length (nlr _)
 rwa [List.take_length]at this
theorem pR(s:Str): ∀t∈yu s,TkG t:=Bs.fin_ok (iC s)
theorem lZ(s:Str):(yu s).length<=s.length:=(iC s).len
theorem bT(s:Str):(gW s).length<=s.length:=by unfold gW;rw[List.length_map];exact lZ s
theorem TkG.ne{t:Tk}(h:TkG t):t.text≠ []:=by
 rcases h.2 with⟨_,c,r,e,_⟩|⟨_,c,e,_⟩<;>rw[e]<;>exact List.cons_ne_nil _ _
theorem cQ{L:List Str}{w:Str}(h:w∈L):w.length<=L.flatten.length:=by
 induction L with
 |nil=>cases h
 |cons a r ih=>
  rw[List.flatten_cons,lap];rcases List.mem_cons.1 h with rfl|h
  ·omega
  ·have:=ih h;omega
theorem nW(s:Str){t:Tk}(ht:t∈gW s): ∃u,TkG u∧t=tkN u∧u∈yu s:=by
 unfold gW at ht;obtain⟨u,hu,rfl⟩:=List.mem_map.1 ht;exact⟨u,pR s u hu,rfl,hu⟩
theorem aw{L:List Tk}:EI L=false↔ ∀t∈L,t.text.length<=64:=by
 unfold EI;rw[qr];constructor
 ·intro h t ht;obtain⟨j,hj,rfl⟩:=List.getElem_of_mem ht
  have:=of_decide_eq_false (h j hj)
  rw[gdqA,zG hj,Option.getD_some]at this;omega
 ·intro h j hj
  have:=h (L.getD j default) (by rw[gdqA,zG hj];exact List.getElem_mem hj)
  exact dqf om
theorem Gl{s:Str}:pP s=0↔ ∀t∈yu s,t.text.length<=64:=by
 unfold pP;rw[<-aw];cases EI (yu s)
 ·simp
 ·simp
def tQ(s:Str):Int:=if jc s≠0 then jc s else pP s
def B8(s:Str):List Str:=if tQ s=0 then (gW s).map Tk.text else []
structure Dc where
 kind:Int
 sig:Str
 tok:Int
 txt:Str
instance:Inhabited Dc:=⟨⟨0,[],0,[]⟩⟩
def dcC(d:Dc):w7:= [.int .i64 d.kind,.str d.sig,.int .i64 d.tok,.str d.txt]
def jG(l:List Dc):AV:= .sl l.length λi=>dcC (l.getD i default)
theorem Q0(l:List Dc):(jG l).flag=true:=rfl
theorem sV(l:List Dc):(jG l).strip=jG l:=rfl
theorem YB{fz:Nat->Bool}{h:w6}{n:Nat}(l:List Dc):rei fz h (n+1) (jG l)=jG l:=rfl
theorem Xn{fz:Nat->Bool}{h:w6}{n:Nat}(l:List Dc):frz fz h (n+1) (jG l)=jG l:=rfl
attribute [go_sem] Q0 sV YB Xn
def zM(x:Co)(g:Str):Int:=yM (λj=>decide (g=x.sig.getD j [])) x.sig.length 0
def wp(x:Co)(s:Nat)(t:Int):Int:=yM (λk=>decide ((x.col.getD k []).getD s 0=t)) x.col.length 0
def jN(x:Co)(l:List Un)(o:Dc):Int:=fnU l (wp x (zM x o.sig).toNat o.tok)
def tkB(x:Co)(o:Dc):Bool:=decide (0<=zM x o.sig)&&(decide (0<=o.tok)&&decide (o.tok<((x.tok.getD (zM x o.sig).toNat []).length:Int)))
def cjE(o:Dc):Int:=if o.kind=2 then (if tQ o.txt≠0 then tQ o.txt else if B8 o.txt= [] then 5 else 0) else 0
def yb(x:Co)(l:List Un)(o:Dc):Int:=
 if o.kind<1∨3<o.kind then 8 else if o.txt≠ []∧o.kind≠2 then 1 else if tkB x o=false then 6 else if jN x l o<0 then 20 else cjE o
def Vd(x:Co)(l:List Un)(o:Dc):Int:=if vaE x l≠0 then vaE x l else yb x l o
def Gw(x:Co)(l:List Un)(o:Dc):Int:=if Vd x l o=0 then jN x l o else 0
def az(x:Co)(l:List Un)(d:List Dc):Int:=if 256<d.length then 4 else xM (λi=>yb x l (d.getD i default)) 0 d.length
theorem lW{x:Co}{o:Dc}(h:tkB x o=true):0<=zM x o.sig∧(zM x o.sig).toNat<x.sig.length∧x.sig.getD (zM x o.sig).toNat []=o.sig∧0<=o.tok∧o.tok<((x.tok.getD (zM x o.sig).toNat []).length:Int):=by
 unfold tkB at h;rw[Bool.and_eq_true,Bool.and_eq_true,decide_eq_true_iff,decide_eq_true_iff,decide_eq_true_iff]at h;obtain⟨h1,h2,h3⟩:=h;rcases zI (λj=>decide (o.sig=x.sig.getD j [])) x.sig.length with⟨i,g1,g2,_,g4⟩|⟨_,g2⟩
 ·have e:zM x o.sig=i:=g4;rw[e]at h1 h3 ⊢;exact⟨h1,g1,(of_decide_eq_true g2).symm,h2,h3⟩
 ·have e:zM x o.sig= -1:=g2;omega
theorem Y5{x:Co}{s:Nat}(hs:s<x.sig.length)(hn: ∀j,j<s->x.sig.getD j []≠x.sig.getD s []):zM x (x.sig.getD s [])=s:=
 wv (p:=λj=>decide (x.sig.getD s []=x.sig.getD j [])) hs (λj hj=>dqf λe=>hn j hj e.symm) (dqt rfl)
theorem w9{x:Co}{l:List Un}{o:Dc}(h:yb x l o=0):1<=o.kind∧o.kind<=3∧(o.txt= []∨o.kind=2)∧tkB x o=true∧0<=jN x l o∧cjE o=0:=by
 unfold yb at h;split at h
 ·cases h
 split at h
 ·cases h
 split at h
 ·cases h
 split at h
 ·cases h
 rename_i h1 h2 h3 h4;refine⟨om,om,?_,by simpa using h3,om,h⟩
 by_cases e:o.txt= []
 ·exact .inl e
 ·exact .inr (Classical.not_not.1 λhc=>h2 ⟨e,hc⟩)
theorem Qv{o:Dc}(h:cjE o=0)(hk:o.kind=2):jc o.txt=0∧pP o.txt=0∧gW o.txt≠ []∧o.txt≠ []:=by
 unfold cjE at h;rw[ipo hk]at h;split at h
 ·rename_i e;exact absurd h e
 rename_i h1;have h1:=Classical.not_not.1 h1;split at h
 ·cases h
 rename_i h2;unfold B8 at h2;rw[ipo h1]at h2;have h3:gW o.txt≠ []:=λe=>h2 (by rw[e];rfl)
 unfold tQ at h1;split at h1
 ·rename_i e;exact absurd h1 e
 rename_i g;exact⟨Classical.not_not.1 g,h1,h3,λe=>h3 (by rw[e];rfl)⟩
structure Pc where
 t:Tk
 c:Int
instance:Inhabited Pc:=⟨⟨default,0⟩⟩
def pcB(x:Co)(s k:Nat):Bool:=decide (0<=(x.col.getD k []).getD s 0)
def pcT(x:Co)(s k:Nat):Pc:=⟨(x.tok.getD s []).getD ((x.col.getD k []).getD s 0).toNat default,(k:Int)⟩
def spk(x:Co)(s f:Nat):Nat->List Pc
 |0=> []
 |d+1=>spk x s f d++if pcB x s (f+d)=true then [pcT x s (f+d)] else []
structure Rw where
 p:Pc
 u:Int
 d:Int
instance:Inhabited Rw:=⟨⟨default,0,0⟩⟩
def qdz(f:Int):Bool:=f.toNat.testBit 2
def jnB(f:Int):Bool:=f.toNat.testBit 4
def qc4(b s:Str):Bool:=if kU b=true then !kU s&& !decide (s= [39]) else true
def mkW(pv:Option Str)(r:Rw):Wd:=⟨r.p.t.text,r.p.c,r.u,r.d,jnB r.p.t.flags&&(match pv with|none=>false|some b=>qc4 b r.p.t.text),qdz r.p.t.flags,r.p.t.name⟩
def VO(L:List Rw)(i:Nat):Option Str:=if i=0 then none else some (L.getD (i-1) default).p.t.text
def bsW(L:List Rw):List Wd:=(List.range L.length).map λi=>mkW (VO L i) (L.getD i default)
theorem jD(L:List Rw):(bsW L).length=L.length:=by unfold bsW;simp
theorem xm{L:List Rw}{i:Nat}(hi:i<L.length):(bsW L).getD i default=mkW (VO L i) (L.getD i default):=by
 unfold bsW;rw[gdqA,List.getElem?_map,List.getElem?_range hi];rfl
theorem cB{α:Type}{L M:List α}{a:α}{i:Nat}(hi:i<L.length):(L++M).getD i a=L.getD i a:=by
 rw[gdqA,gdqA,List.getElem?_append_left hi]
theorem al{α:Type}{L M:List α}{a:α}{i:Nat}:(L++M).getD (L.length+i) a=M.getD i a:=by
 rw[gdqA,gdqA,List.getElem?_append_right om,Nat.add_sub_cancel_left]
theorem V8(L:List Rw)(r:Rw):bsW (L++ [r])=bsW L++ [mkW (VO (L++ [r]) L.length) r]:=by
 unfold bsW;rw[lap,lco,lnl,Nat.zero_add,List.range_succ,List.map_append];congr 1
 ·refine List.map_congr_left λi hi=> ?_
  rw[List.mem_range]at hi;have e1:(L++ [r]).getD i default=L.getD i default:=cB hi;have e2:VO (L++ [r]) i=VO L i:=by
   unfold VO;split
   ·rfl
   ·rw[cB om]
  rw[e1,e2]
 ·have e1:(L++ [r]).getD L.length default=r:=by
   have:=al (L:=L) (M:= [r]) (a:=default) (i:=0)
   rw[Nat.add_zero]at this;rw[this];rfl
  rw[List.map_cons,List.map_nil,e1]
theorem Jp(L:List Rw)(r:Rw):VO (L++ [r]) L.length=if L.length=0 then none else some ((bsW L).getD (L.length-1) default).text:=by
 unfold VO;split
 ·rfl
 ·rw[cB om,xm om];rfl
def wz(x:Co)(l:List Un)(d:List Dc)(k:Nat):Nat->Int
 |0=> -1
 |n+1=>if jN x l (d.getD n default)=k then (n:Int) else wz x l d k n
def frN(l:List Un)(k:Nat):Nat:=(l.getD k default).frm.toNat
def toN(l:List Un)(k:Nat):Nat:=(l.getD k default).to.toNat
def zx(l:List Un)(k:Nat):Nat:=if k=0 then 0 else toN l (k-1)
def mn(x:Co)(l:List Un)(k:Nat)(o:Dc):List Pc:=
 if o.kind=1 then spk x (zM x o.sig).toNat (frN l k) (toN l k-frN l k) else if o.kind=2 then (gW o.txt).map (λt=>⟨t,(l.getD k default).frm⟩) else []
def rwM(ps:List Pc)(u d:Int):List Rw:=ps.map λp=>⟨p,u,d⟩
def rwC(x:Co)(s f t:Nat):List Rw:=rwM (spk x s f (t-f)) (-1) (-1)
def rwU(x:Co)(l:List Un)(d:List Dc)(s k:Nat):List Rw:=
 if wz x l d k d.length<0 then rwM (spk x s (frN l k) (toN l k-frN l k)) k (-1)
 else rwM (mn x l k (d.getD (wz x l d k d.length).toNat default)) k (wz x l d k d.length)
def rwL(x:Co)(l:List Un)(d:List Dc)(s:Nat):Nat->List Rw
 |0=> []
 |k+1=>rwL x l d s k++(rwC x s (zx l k) (frN l k)++rwU x l d s k)
def rwA(x:Co)(l:List Un)(d:List Dc)(s:Nat):List Rw:=rwL x l d s l.length++rwC x s (zx l l.length) x.col.length
def esE(x:Co)(l:List Un)(d:List Dc)(s:Int):Int:=
 if vaE x l≠0 then vaE x l else if s<0∨(x.sig.length:Int)<=s then 2 else if az x l d≠0 then az x l d else if 1024<(rwA x l d s.toNat).length then 4 else 0
def esR(x:Co)(l:List Un)(d:List Dc)(s:Int):List Wd:=if esE x l d s=0 then bsW (rwA x l d s.toNat) else []
theorem xQ(x:Co)(l:List Un)(d:List Dc)(k:Nat): ∀n,-1<=wz x l d k n∧wz x l d k n<n:=by
 intro n
 induction n with
 |zero=>exact⟨Int.le_refl _,by unfold wz;omega⟩
 |succ n ih=>
  unfold wz;split
  ·omega
  ·omega
theorem mU{x:Co}{l:List Un}{d:List Dc}{k:Nat}: ∀ {n j:Nat},wz x l d k n=j->jN x l (d.getD j default)=k:=by
 intro n
 induction n with
 |zero=>intro j h;unfold wz at h;omega
 |succ n ih=>
  intro j h;unfold wz at h;split at h
  ·rename_i g;have e:n=j:=by omega
   rw[<-e];exact g
  ·exact ih h
theorem ZG{x:Co}{l:List Un}{d:List Dc}{k:Nat}: ∀ {n:Nat},∀j:Nat,j<n->wz x l d k n<j->jN x l (d.getD j default)≠k:=by
 intro n
 induction n with
 |zero=>intro j h;omega
 |succ n ih=>
  intro j hj h;unfold wz at h;split at h
  ·omega
  ·rename_i g
   by_cases e:j=n
   ·rw[e];exact g
   ·exact ih j om h
theorem yt(x:Co)(s f:Nat): ∀d,(spk x s f d).length<=d:=by
 intro d
 induction d with
 |zero=>exact nlr _
 |succ d ih=>
  unfold spk;rw[lap];split
  ·simp only[lco,lnl];omega
  ·simp only[lnl];omega
theorem mV{x:Co}{s f:Nat}{p:Pc}: ∀ {d:Nat},p∈spk x s f d↔ ∃k,f<=k∧k<f+d∧pcB x s k=true∧p=pcT x s k:=by
 intro d
 induction d with
 |zero=>
  constructor
  ·intro h;cases h
  ·rintro⟨k,h1,h2,_⟩;omega
 |succ d ih=>
  unfold spk;rw[List.mem_append,ih];constructor
  ·rintro (⟨k,h1,h2,h3⟩|h)
   ·exact⟨k,h1,om,h3⟩
   ·split at h
    ·rename_i g;rw[List.mem_singleton]at h;exact⟨f+d,om,om,g,h⟩
    ·cases h
  ·rintro⟨k,h1,h2,h3,h4⟩
   by_cases e:k<f+d
   ·exact .inl ⟨k,h1,e,h3,h4⟩
   ·have e:k=f+d:=by omega
    subst e;rw[ipo h3];exact .inr (List.mem_singleton.2 h4)
theorem xT(x:Co)(s f:Nat): ∀d,(spk x s f d).map (λp=>p.t.text)=rdG x s f d:=by
 intro d
 induction d with
 |zero=>rfl
 |succ d ih=>
  unfold spk rdG;rw[List.map_append,ih];congr 1;unfold pcB clT
  by_cases h:(x.col.getD (f+d) []).getD s 0<0
  ·rw[ine (by simpa using h),ipo h];rfl
  ·rw[ipo (by simpa using h),ine h];rfl
theorem jF(ps:List Pc)(u d:Int):(rwM ps u d).length=ps.length:=by unfold rwM;rw[List.length_map]
theorem jz{ps:List Pc}{u d:Int}{r:Rw}:r∈rwM ps u d↔r.p∈ps∧r.u=u∧r.d=d:=by
 unfold rwM;rw[List.mem_map];constructor
 ·rintro⟨p,hp,rfl⟩;exact⟨hp,rfl,rfl⟩
 ·rintro⟨h1,h2,h3⟩;exact⟨r.p,h1,by cases r;cases h2;cases h3;rfl⟩
def pS(b:List Wd):List Str:=b.map (·.text)
structure qgz (a:Ap) (k:Nat):Prop where
 inv:im (a.l.getD k default).rds a.x.sig.length
 has:rc (a.l.getD k default).rds a.x.sig.length λi=>rdG a.x i (a.l.getD k default).frm.toNat ((a.l.getD k default).to.toNat-(a.l.getD k default).frm.toNat)
theorem Rn{t:Tk}(h:tkE t=0):txB t=true:=by
 unfold tkE at h;split at h
 ·cases h
 split at h
 ·cases h
 split at h
 ·cases h
 rename_i h3;simpa using h3
end RC
end
section
namespace Go.Proofs
open Go.Shelf
end Go.Proofs
end
section
open Go Go.Proofs Go.Sort AF HY LN
namespace RC
end RC
end
section
open Go Go.Proofs AF HY LN
namespace RC
theorem fy{a b:En}:cq a b=false↔a.to<=b.frm∧ ¬(a.frm=b.frm∧a.to=b.to):=by
 unfold cq;rw[Bool.or_eq_false_iff,decide_eq_false_iff_not,Bool.and_eq_false_iff,decide_eq_false_iff_not,decide_eq_false_iff_not];omega
theorem qdo{L:List En}(hs:L.Pairwise λa b=>ot b a=false)(hr: ∀e∈L,e.frm<=e.to)(hc:xo L=false):L.Pairwise λa b=>cq a b=false:=by
 induction L with
 |nil=>exact List.Pairwise.nil
 |cons a r ih=>
  have h0:=KD hs hc;obtain⟨h1,h2⟩:=List.pairwise_cons.1 hs;have h3:=ih h2 (λe he=>hr e (List.mem_cons_of_mem _ he)) (dT hc);refine List.pairwise_cons.2 ⟨?_,h3⟩;cases r with
  |nil=>intro z hz;cases hz
  |cons b r=>
   have hab:cq a b=false:=by
    rw[xo,Bool.or_eq_false_iff]at hc;exact hc.1
   intro z hz;have g0:=yz.1 ((List.pairwise_cons.1 h0).1 z hz);rcases List.mem_cons.1 hz with rfl|hz'
   ·exact hab
   ·have g1:=fy.1 ((List.pairwise_cons.1 h3).1 z hz');have g2:=fy.1 hab;have g3:=hr b (by simp);rw[fy];omega
theorem oD: ∀ {L:List En},(L.Pairwise λa b=>cq a b=false)->xo L=false
 | [],_=>rfl
 | [_],_=>rfl
 |a::b::r,h=>by
  obtain⟨h1,h2⟩:=List.pairwise_cons.1 h;rw[xo,h1 b (by simp),oD h2];rfl
theorem sa(names:List Str)(gs:List Gr)(l:List En)(src:Int)(p:En->Bool):ofE names gs (l.filter p) src=(ofE names gs l src).filter p:=by
 have h:=iO ov ou p l [] List.Pairwise.nil;unfold ofE Ho;rw[List.filter_nil]at h;rw[<-h,List.filter_reverse,List.filter_reverse,List.filter_reverse,List.filter_filter,List.filter_filter];congr 2;funext x;exact Bool.and_comm _ _
theorem qdj{names:List Str}{gs:List Gr}{t:List Str}{l:List En}(h:G7 names gs t l){s:Nat}(hs:s<names.length):(ofE names gs l (s:Int)).Pairwise λa b=>cq a b=false:=by
 refine qdo (sb names gs l s) (λe he=> ?_) (x6 h.cl hs);have h1:e∈Ho l:=(List.mem_filter.1 he).1;have h2:=Qu.1 (h.ck e ((lT l).subset h1));exact h2.rng.2.1
theorem G7.filter{names:List Str}{gs:List Gr}{t:List Str}{l:List En}(h:G7 names gs t l)(p:En->Bool):G7 names gs t (l.filter p):=
 ⟨h.sg,Nat.le_trans (List.length_filter_le _ _) h.n,λe he=>h.ck e ((List.mem_filter.1 he).1),qr.2 λs hs=>by
  rw[sa]
  exact oD (List.Pairwise.filter _ (qdj h hs))⟩
theorem qgq(x:Co)(l:List Un)(w bef:Wd)(first:Bool)(h:w6)(hl:l.length<=1000000000)(hc:x.col.length<=1000000000)(hw:w.text.length<=1000000000):
  ACalls Tryz.prog 70 [.agg (coC x),zf l,.agg (wdC w),.agg (wdC bef),.bool first] h (.int .i64 (wdE x l w bef first)) h:=by
 obtain⟨R,hR⟩:=wD (wdE x l w bef first)
 rw[<-hR];unfold wdE at hR;have cF:=λh=>Of l w.col h hl
 by_cases g0:w.text= []
 ·have k0:(w.text= [])=True:=eqt g0;rw[ipo (.inl g0)]at hR;rw[hR];refine acO kz ?_;simp (disch:=omega) only[br,coC,wdC,zf,k0,go_sem]
  repeat' first|exact wj|fail
 have k0:(w.text= [])=False:=eqf g0;simp only[k0,false_or]at hR;obtain⟨p,hp⟩:=wD (fnU l w.col)
 rw[<-hp]at hR;cases first with
 |true=>
  simp only[Bool.true_eq_false,false_and,or_false]at hR
  by_cases gB:64<w.text.length
  ·have kB:((64:Int)<w.text.length)=True:=eqt (by first|exact gB|omega);have hV:R=11:=by rw[hR];(repeat' split)<;>first|rfl|(exfalso;omega)
   rw[hV];refine acO kz ?_;simp (disch:=omega) only[br,coC,wdC,zf,qo,k0,kB,go_sem]
   repeat' first|exact wj|fail
  ·have kB:((64:Int)<w.text.length)=False:=eqf (by first|exact gB|omega)
   by_cases gC:w.col<0
   ·have kC:(w.col<0)=True:=eqt (by first|exact gC|omega);have hV:R=19:=by rw[hR];(repeat' split)<;>first|rfl|(exfalso;omega)
    rw[hV];refine acO kz ?_;simp (disch:=omega) only[br,coC,wdC,zf,qo,k0,kB,kC,go_sem]
    repeat' first|exact wj|fail
   ·have kC:(w.col<0)=False:=eqf (by first|exact gC|omega);have eF:fnR l w.col=p:=by unfold fnR;rw[ine gC,hp]
    have eE:fnE w.col=0:=ine gC;simp only[eF,eE]at cF
    by_cases gD:(x.col.length:Int)<=w.col
    ·have kD:((x.col.length:Int)<=w.col)=True:=eqt (by first|exact gD|omega);have hV:R=19:=by rw[hR];(repeat' split)<;>first|rfl|(exfalso;omega)
     rw[hV];refine acO kz ?_;simp (disch:=omega) only[br,coC,wdC,zf,qo,k0,kB,kC,kD,go_sem]
     repeat' first|exact wj|with_reducible apply aiA|exact clz|fail
    ·have kD:((x.col.length:Int)<=w.col)=False:=eqf (by first|exact gD|omega)
     by_cases gG:w.unit< -1
     ·have kG:(w.unit< -1)=True:=eqt (by first|exact gG|omega);have hV:R=20:=by rw[hR];(repeat' split)<;>first|rfl|(exfalso;omega)
      rw[hV];refine acO kz ?_;simp (disch:=omega) only[br,coC,wdC,zf,qo,k0,kB,kC,kD,kG,go_sem]
      repeat' first|(apply qb;exact rvk;simp only[go_sem];first|exact qi|apply qe)|(with_reducible first|intro _|apply aiA)|exact clz|fail
     ·have kG:(w.unit< -1)=False:=eqf (by first|exact gG|omega)
      by_cases gH:(l.length:Int)<=w.unit
      ·have kH:((l.length:Int)<=w.unit)=True:=eqt (by first|exact gH|omega);have hV:R=20:=by rw[hR];(repeat' split)<;>first|rfl|(exfalso;omega)
       rw[hV];refine acO kz ?_;simp (disch:=omega) only[br,coC,wdC,zf,qo,k0,kB,kC,kD,kG,kH,go_sem]
       repeat' first|(apply qb;exact rvk;simp only[go_sem];first|exact qi|apply qe)|(with_reducible first|intro _|apply aiA)|exact clz|fail
      ·have kH:((l.length:Int)<=w.unit)=False:=eqf (by first|exact gH|omega)
       by_cases gI:p=w.unit
       ·have kI:(p=w.unit)=True:=eqt (by first|exact gI|omega)
        by_cases gJ:w.dec< -1
        ·have kJ:(w.dec< -1)=True:=eqt (by first|exact gJ|omega);have hV:R=2:=by rw[hR];(repeat' split)<;>first|rfl|(exfalso;omega)
         rw[hV];refine acO kz ?_;simp (disch:=omega) only[br,coC,wdC,zf,qo,k0,kB,kC,kD,kG,kH,go_sem]
         repeat' first|(refine cA (cF _) flk ?_;simp (disch:=omega) only[kI,kJ,go_sem])|(apply qb;exact rvk;simp only[go_sem];first|exact qi|apply qe)|(with_reducible first|intro _|apply aiA)|exact clz|fail
        ·have kJ:(w.dec< -1)=False:=eqf (by first|exact gJ|omega)
         by_cases gK:w.unit<0
         ·have kK:(w.unit<0)=True:=eqt (by first|exact gK|omega);have kKb:(0<=w.unit)=False:=eqf (by first|exact gK|omega)
          by_cases gL:w.dec= -1
          ·have kL:(w.dec= -1)=True:=eqt (by first|exact gL|omega);have hV:R=0:=by rw[hR];(repeat' split)<;>first|rfl|(exfalso;omega)
           rw[hV];refine acO kz ?_;simp (disch:=omega) only[br,coC,wdC,zf,qo,k0,kB,kC,kD,kG,kH,go_sem]
           repeat' first|(refine cA (cF _) flk ?_;simp (disch:=omega) only[kI,kJ,kK,kKb,kL,go_sem])|(apply qb;exact rvk;simp only[go_sem];first|exact qi|apply qe)|(with_reducible first|intro _|apply aiA)|exact clz|fail
          ·have kL:(w.dec= -1)=False:=eqf (by first|exact gL|omega);have hV:R=2:=by rw[hR];(repeat' split)<;>first|rfl|(exfalso;omega)
           rw[hV];refine acO kz ?_;simp (disch:=omega) only[br,coC,wdC,zf,qo,k0,kB,kC,kD,kG,kH,go_sem]
           repeat' first|(refine cA (cF _) flk ?_;simp (disch:=omega) only[kI,kJ,kK,kKb,kL,go_sem])|(apply qb;exact rvk;simp only[go_sem];first|exact qi|apply qe)|(with_reducible first|intro _|apply aiA)|exact clz|fail
         ·have kK:(w.unit<0)=False:=eqf (by first|exact gK|omega);have kKb:(0<=w.unit)=True:=eqt (by first|exact gK|omega);have hV:R=0:=by rw[hR];(repeat' split)<;>first|rfl|(exfalso;omega)
          rw[hV];refine acO kz ?_;simp (disch:=omega) only[br,coC,wdC,zf,qo,k0,kB,kC,kD,kG,kH,go_sem]
          repeat' first|(refine cA (cF _) flk ?_;simp (disch:=omega) only[kI,kJ,kK,kKb,go_sem])|(apply qb;exact rvk;simp only[go_sem];first|exact qi|apply qe)|(with_reducible first|intro _|apply aiA)|exact clz|fail
       ·have kI:(p=w.unit)=False:=eqf (by first|exact gI|omega);have hV:R=20:=by rw[hR];(repeat' split)<;>first|rfl|(exfalso;omega)
        rw[hV];refine acO kz ?_;simp (disch:=omega) only[br,coC,wdC,zf,qo,k0,kB,kC,kD,kG,kH,go_sem]
        repeat' first|(refine cA (cF _) flk ?_;simp (disch:=omega) only[kI,go_sem])|(apply qb;exact rvk;simp only[go_sem];first|exact qi|apply qe)|(with_reducible first|intro _|apply aiA)|exact clz|fail
 |false=>
  simp only[true_and]at hR
  by_cases gB:64<w.text.length
  ·have kB:((64:Int)<w.text.length)=True:=eqt (by first|exact gB|omega);have hV:R=11:=by rw[hR];(repeat' split)<;>first|rfl|(exfalso;omega)
   rw[hV];refine acO kz ?_;simp (disch:=omega) only[br,coC,wdC,zf,qo,k0,kB,go_sem]
   repeat' first|exact wj|fail
  ·have kB:((64:Int)<w.text.length)=False:=eqf (by first|exact gB|omega)
   by_cases gC:w.col<0
   ·have kC:(w.col<0)=True:=eqt (by first|exact gC|omega);have hV:R=19:=by rw[hR];(repeat' split)<;>first|rfl|(exfalso;omega)
    rw[hV];refine acO kz ?_;simp (disch:=omega) only[br,coC,wdC,zf,qo,k0,kB,kC,go_sem]
    repeat' first|exact wj|fail
   ·have kC:(w.col<0)=False:=eqf (by first|exact gC|omega);have eF:fnR l w.col=p:=by unfold fnR;rw[ine gC,hp]
    have eE:fnE w.col=0:=ine gC;simp only[eF,eE]at cF
    by_cases gD:(x.col.length:Int)<=w.col
    ·have kD:((x.col.length:Int)<=w.col)=True:=eqt (by first|exact gD|omega);have hV:R=19:=by rw[hR];(repeat' split)<;>first|rfl|(exfalso;omega)
     rw[hV];refine acO kz ?_;simp (disch:=omega) only[br,coC,wdC,zf,qo,k0,kB,kC,kD,go_sem]
     repeat' first|exact wj|with_reducible apply aiA|exact clz|fail
    ·have kD:((x.col.length:Int)<=w.col)=False:=eqf (by first|exact gD|omega)
     by_cases gF:w.col<bef.col
     ·have kF:(w.col<bef.col)=True:=eqt (by first|exact gF|omega);have hV:R=19:=by rw[hR];(repeat' split)<;>first|rfl|(exfalso;omega)
      rw[hV];refine acO kz ?_;simp (disch:=omega) only[br,coC,wdC,zf,qo,k0,kB,kC,kD,kF,go_sem]
      repeat' first|exact wj|with_reducible apply aiA|exact clz|fail
     ·have kF:(w.col<bef.col)=False:=eqf (by first|exact gF|omega)
      by_cases gG:w.unit< -1
      ·have kG:(w.unit< -1)=True:=eqt (by first|exact gG|omega);have hV:R=20:=by rw[hR];(repeat' split)<;>first|rfl|(exfalso;omega)
       rw[hV];refine acO kz ?_;simp (disch:=omega) only[br,coC,wdC,zf,qo,k0,kB,kC,kD,kF,kG,go_sem]
       repeat' first|exact wj|with_reducible apply aiA|exact clz|fail
      ·have kG:(w.unit< -1)=False:=eqf (by first|exact gG|omega)
       by_cases gH:(l.length:Int)<=w.unit
       ·have kH:((l.length:Int)<=w.unit)=True:=eqt (by first|exact gH|omega);have hV:R=20:=by rw[hR];(repeat' split)<;>first|rfl|(exfalso;omega)
        rw[hV];refine acO kz ?_;simp (disch:=omega) only[br,coC,wdC,zf,qo,k0,kB,kC,kD,kF,kG,kH,go_sem]
        repeat' first|exact wj|with_reducible apply aiA|exact clz|fail
       ·have kH:((l.length:Int)<=w.unit)=False:=eqf (by first|exact gH|omega)
        by_cases gI:p=w.unit
        ·have kI:(p=w.unit)=True:=eqt (by first|exact gI|omega)
         by_cases gJ:w.dec< -1
         ·have kJ:(w.dec< -1)=True:=eqt (by first|exact gJ|omega);have hV:R=2:=by rw[hR];(repeat' split)<;>first|rfl|(exfalso;omega)
          rw[hV];refine acO kz ?_;simp (disch:=omega) only[br,coC,wdC,zf,qo,k0,kB,kC,kD,kF,kG,kH,go_sem]
          repeat' first|(refine cA (cF _) flk ?_;simp (disch:=omega) only[kI,kJ,go_sem])|exact wj|with_reducible apply aiA|exact clz|fail
         ·have kJ:(w.dec< -1)=False:=eqf (by first|exact gJ|omega)
          by_cases gK:w.unit<0
          ·have kK:(w.unit<0)=True:=eqt (by first|exact gK|omega);have kKb:(0<=w.unit)=False:=eqf (by first|exact gK|omega)
           by_cases gL:w.dec= -1
           ·have kL:(w.dec= -1)=True:=eqt (by first|exact gL|omega);have hV:R=0:=by rw[hR];(repeat' split)<;>first|rfl|(exfalso;omega)
            rw[hV];refine acO kz ?_;simp (disch:=omega) only[br,coC,wdC,zf,qo,k0,kB,kC,kD,kF,kG,kH,go_sem]
            repeat' first|(refine cA (cF _) flk ?_;simp (disch:=omega) only[kI,kJ,kK,kKb,kL,go_sem])|(apply qb;exact rvk;simp only[go_sem];first|exact qi|apply qe)|(with_reducible first|intro _|apply aiA)|exact clz|fail
           ·have kL:(w.dec= -1)=False:=eqf (by first|exact gL|omega);have hV:R=2:=by rw[hR];(repeat' split)<;>first|rfl|(exfalso;omega)
            rw[hV];refine acO kz ?_;simp (disch:=omega) only[br,coC,wdC,zf,qo,k0,kB,kC,kD,kF,kG,kH,go_sem]
            repeat' first|(refine cA (cF _) flk ?_;simp (disch:=omega) only[kI,kJ,kK,kKb,kL,go_sem])|exact wj|with_reducible apply aiA|exact clz|fail
          ·have kK:(w.unit<0)=False:=eqf (by first|exact gK|omega);have kKb:(0<=w.unit)=True:=eqt (by first|exact gK|omega)
           by_cases gO:w.unit=bef.unit
           ·have kO:(w.unit=bef.unit)=True:=eqt (by first|exact gO|omega)
            by_cases gP:w.dec=bef.dec
            ·have kP:(w.dec=bef.dec)=True:=eqt (by first|exact gP|omega);have hV:R=0:=by rw[hR];(repeat' split)<;>first|rfl|(exfalso;omega)
             rw[hV];refine acO kz ?_;simp (disch:=omega) only[br,coC,wdC,zf,qo,k0,kB,kC,kD,kF,kG,kH,go_sem]
             repeat' first|(refine cA (cF _) flk ?_;simp (disch:=omega) only[kI,kJ,kK,kKb,kO,kP,go_sem])|(apply qb;exact rvk;simp only[go_sem];first|exact qi|apply qe)|(with_reducible first|intro _|apply aiA)|exact clz|fail
            ·have kP:(w.dec=bef.dec)=False:=eqf (by first|exact gP|omega);have hV:R=2:=by rw[hR];(repeat' split)<;>first|rfl|(exfalso;omega)
             rw[hV];refine acO kz ?_;simp (disch:=omega) only[br,coC,wdC,zf,qo,k0,kB,kC,kD,kF,kG,kH,go_sem]
             repeat' first|(refine cA (cF _) flk ?_;simp (disch:=omega) only[kI,kJ,kK,kKb,kO,kP,go_sem])|(apply qb;exact rvk;simp only[go_sem];first|exact qi|apply qe)|(with_reducible first|intro _|apply aiA)|exact clz|fail
           ·have kO:(w.unit=bef.unit)=False:=eqf (by first|exact gO|omega);have hV:R=0:=by rw[hR];(repeat' split)<;>first|rfl|(exfalso;omega)
            rw[hV];refine acO kz ?_;simp (disch:=omega) only[br,coC,wdC,zf,qo,k0,kB,kC,kD,kF,kG,kH,go_sem]
            repeat' first|(refine cA (cF _) flk ?_;simp (disch:=omega) only[kI,kJ,kK,kKb,kO,go_sem])|(apply qb;exact rvk;simp only[go_sem];first|exact qi|apply qe)|(with_reducible first|intro _|apply aiA)|exact clz|fail
        ·have kI:(p=w.unit)=False:=eqf (by first|exact gI|omega);have hV:R=20:=by rw[hR];(repeat' split)<;>first|rfl|(exfalso;omega)
         rw[hV];refine acO kz ?_;simp (disch:=omega) only[br,coC,wdC,zf,qo,k0,kB,kC,kD,kF,kG,kH,go_sem]
         repeat' first|(refine cA (cF _) flk ?_;simp (disch:=omega) only[kI,go_sem])|exact wj|with_reducible apply aiA|exact clz|fail
end RC
end
section
open Go Go.Proofs AF
def Et:List Nat:= [1000072,1000073,1000075,1000076,1000077,1000078,1000079]
@[go_sem]def vf:DT:= DT.one ⟨none,none,.store 1,[.t 17,.t 79]⟩ DT.nil
@[go_sem]def vd:DT:= DT.one ⟨some 71,none,.load none,[.t 70]⟩ (DT.one ⟨some 72,none,.idxI 1,[.t 71,.c (i6 0)]⟩ (DT.one ⟨some 73,none,.loadI none,[.t 72]⟩ (DT.one ⟨some 77,none,.idxI 6,[.t 73,.t 76]⟩
 (DT.one ⟨some 78,none,.fldI 0,[.t 77]⟩ (DT.one ⟨some 79,none,.loadI none,[.t 78]⟩ vf)))))
def qbO:C:=
 (v6 [O1 3 (.box 0 26) 0,vU 6 0] ((v6 [O1 18 (.load (some 4)) 3,MV 19 1,O2 20 (.call 69 true) 18 19,MV 7 20] (v6 [MV 21 7,vV 22 .neq 21 0] (v7 22 (wa [MV 23 7,MV 6 23])))).seq
 (v6 [vT 24 3 3,LD 25 24,O1 26 .len 25,⟨some 27,none,.mkslc 1 1 3 [i6 0] 8,[.t 26,.t 26]⟩,MV 8 27] (v6 [⟨some 9,none,.alloc 2 36 [.str [],i6 0,i6 0,i6 0,.bool false,.bool
 false,.str []],[]⟩] ((v6 [MV 28 2,O1 29 .len 28,vU 30 0] (C.block 0 (v6 [BI 31 .lss 30 29] ((v8 31 0).seq ((C.block 1 (v6 [MV 32 30,O2 33 (.idxA 7) 28 30,O1 34 (.load (some 7))
 33,⟨some 11,none,.alloc 3 36 [.str [],i6 0,i6 0,i6 0,.bool false,.bool false,.str []],[]⟩,MV 10 32,ST 7 11 34] ((v6 [O1 35 (.load (some 4)) 3,MV 36 1,O1 37 (.load (some 7))
 11,O1 38 (.load (some 7)) 9,MV 39 10,vV 40 .eql 39 0,ON 41 (.call 70 true) [.t 35,.t 36,.t 37,.t 38,.t 40],MV 12 41] (v6 [MV 42 12,vV 43 .neq 42 0] (v7 43 (wa [MV 44 12,MV 6
 44])))).seq (v6 [O1 45 (.load (some 7)) 11,ST 7 9 45] (wc [MV 46 8,vT 47 1 11,LD 48 47,O2 49 (.idxA 1) 46 48,LD 50 49,vV 51 .add 50 1,O2 52 (.idxA 1) 46 48,ST 1 52 51]))))).seq
 (wc [vV 53 .add 30 1,MV 30 53])))).loop)).seq ((v6 [vT 54 3 3,LD 55 54,O1 56 .len 55,vU 57 0] (C.block 2 (v6 [BI 58 .lss 57 56] ((v8 58 2).seq ((C.block 3 (v6 [MV 59 57,O2 60
 (.idxA 1) 55 57,LD 61 60,⟨some 13,none,.alloc 4 3 [i6 0],[]⟩,ST 1 13 59,MV 14 61] ((v6 [MV 63 1,LD 64 13,O2 65 (.call 71 true) 63 64,MV 62 65,O1 66 (.ext 0) 62,O1 67 (.ext 1)
 62,MV 15 66,MV 16 67] (v6 [MV 68 15,vV 69 .geq 68 0] (v7 69 (C.exit 3)))).seq ((C.draw (DT.one ⟨some 74,none,.mv,[.t 14]⟩ (DT.one ⟨some 75,none,.idxI 1,[.t 74,.c (i6 0)]⟩
 (DT.one ⟨some 76,none,.loadI none,[.t 75]⟩ ((DT.one ⟨some 70,none,.fldA 2,[.t 3]⟩ ((DT.one ⟨some 71,none,.load none,[.t 70]⟩ (DT.one ⟨some 72,none,.idxI 1,[.t 71,.c (i6 0)]⟩
 (DT.one ⟨some 73,none,.loadI none,[.t 72]⟩ (DT.one ⟨some 77,none,.idxI 6,[.t 73,.t 76]⟩ (DT.one ⟨some 78,none,.fldI 0,[.t 77]⟩ (DT.one ⟨some 79,none,.loadI none,[.t 78]⟩
 (DT.one ⟨some 17,none,.alloc 5 9 [.str []],[]⟩ vf))))))).two (DT.one ⟨some 17,none,.alloc 5 9 [.str []],[]⟩ vd))).two (DT.one ⟨some 17,none,.alloc 5 9 [.str []],[]⟩ (DT.one
 ⟨some 70,none,.fldA 2,[.t 3]⟩ vd))))))).seq (v6 [MV 80 8,LD 81 13,O2 82 (.idxA 1) 80 81,LD 83 82,vV 84 .neq 83 1,MV 85 84,vY 86 85 2,vX 87 85 (.mkfn (Fn.func 73) 0) 13 17,vX 88
 85 (.call 72 true) 86 87,vW 89 85 (.un UnOp.not) 88,PT 90 85 89] (v7 90 (wa [vU 6 9]))))))).seq (wc [vV 91 .add 57 1,MV 57 91])))).loop)).seq (wa [vU 6 0])))))))
theorem MY:qN Tryz.prog 17 92 6 [RV.tmp 6] qbO:=fi Tryz.f17 [3,27,9,11,13,17] Et []
end
section
open Go Go.Proofs AF HY LN
namespace RC
theorem pc1(w:Wd)(c:Int)(s:Str)(h:w6):ACalls Tryz.prog 73 [.agg (wdC w),.ip [.int .i64 c],.ip [.str s]] h (.bool (decide (w.col=c)&&decide (w.text=s))) h:=by
 by_cases g:w.col=c
 ·have k1:(w.col=c)=True:=eqt g;rw[dqt g,Bool.true_and];refine acO Oa ?_;simp (disch:=omega) only[qbW,wdC,k1,go_sem]
  repeat' first|exact wj|with_reducible apply aiA|exact clz|fail
 ·have k1:(w.col=c)=False:=eqf g;rw[dqf g,Bool.false_and];refine acO Oa ?_;simp (disch:=omega) only[qbW,wdC,k1,go_sem]
  repeat' first|exact wj|with_reducible apply aiA|exact clz|fail
theorem qfb(b:List Wd)(c:Int)(s:Str)(k v k2 v2:Nat)(h:w6)(hk:qv k h=some (.mem v 3 [.int .i64 c]))(hk2:qv k2 h=some (.mem v2 9 [.str s]))(hn:b.length<=1000000000):
  ACalls Tryz.prog 72 [zV b,.fn (.func 73) [] [.op k v 0,.op k2 v2 0]] h (.bool (jx (λi=>decide ((b.getD i default).col=c)&&decide ((b.getD i default).text=s)) b.length)) h:=by
 have hc:=qL hk;have hc2:=qL hk2;unfold zV;refine A9 qcH ⟨rfl,rfl⟩ ⟨rfl,rfl⟩ (cC Mc b.length (λj=>wdC (b.getD j default)) (λj=> .agg (wdC (b.getD j default))) _ [] [.op k v 0,.op k2 v2 0] _ h (λi _=>⟨rfl,by simp[j0,wdC],rfl,rfl,rfl⟩) (λi _=> ?_) om);refine ACalls.borrow ?_ rfl;have e:([AV.agg (wdC (b.getD i default))]++ [AV.op k v 0,AV.op k2 v2 0]).map (rei (λ_=>true) h 8)= [.agg (wdC (b.getD i default)),.ip [.int .i64 c],.ip [.str s]]:=by
  simp only[lca,lna,List.map_cons,List.map_nil,rei_op,if_true,hc,hc2,ipOf_some,List.drop_zero,rei_agg];rfl
 rw[lna,e];exact pc1 _ c s _
theorem GN{x:Co}{l:List Un}{w bef:Wd}{first:Bool}(h:wdE x l w bef first=0):0<=w.col∧w.col<x.col.length:=by
 unfold wdE at h;split at h
 ·cases h
 split at h
 ·cases h
 ·omega
theorem Fe{x:Co}{l:List Un}(ho:CoOk x)(hv:cvA x l=true){c:Nat}(hc:c<x.col.length)(hf:fnU l c<0):0<=(x.col.getD c []).getD 0 0∧(x.col.getD c []).getD 0 0<((x.tok.getD 0 []).length:Int):=by
 unfold cvA at hv;rw[Bool.not_eq_true',qr]at hv;have h1:=hv c hc;have h2:cvB l c=false:=by
  cases e:cvB l c with
  |false=>rfl
  |true=>
   unfold cvB at e;obtain⟨i,hi,hp⟩:=qS.1 e;rw[Bool.and_eq_true,decide_eq_true_iff,decide_eq_true_iff]at hp;exact absurd hp (Zg hf hi)
 rw[h2,Bool.not_false,Bool.true_and,Bool.not_eq_false']at h1;unfold cmB at h1;rw[Bool.not_eq_true',qr]at h1;have h3:=h1 0 ho.sg.1;rw[Bool.or_eq_false_iff]at h3;have h4:clT x c 0≠none:=of_decide_eq_false h3.1;unfold clT at h4;split at h4
 ·exact absurd rfl h4
 ·rename_i g;rcases ho.ce c hc 0 ho.sg.1 with e|⟨_,e⟩
  ·omega
  ·exact⟨om,e⟩
def cwA(b:List Wd)(i k:Nat):AV:= .int .i64 (cW b (k:Int) i:Int)
theorem qb1(b:List Wd)(c:Int): ∀i,cW b c i<=i:=by
 intro i
 induction i with
 |zero=>exact nlr _
 |succ i ih=>unfold cW;split<;>omega
theorem WI{b:List Wd}{i u n:Nat}(hu:u<n)(h:(b.getD i default).col=(u:Int)):List.take u (gC (cwA b i) n)++ [.int .i64 ((cW b (u:Int) i:Int)+1)]++List.drop (u+1) (gC (cwA b i) n)=gC (cwA b (i+1)) n:=by
 rw[BG _ hu];refine xN λk hk=> ?_
 unfold cwA;have e:cW b (k:Int) (i+1)=cW b (k:Int) i+if (b.getD i default).col=(k:Int) then 1 else 0:=rfl
 rw[e]
 by_cases g:k=u
 ·subst g;rw[ipo rfl,ipo h];rfl
 ·rw[ine g,ine (by rw[h];omega)];rfl
theorem pvP(x:Co)(l:List Un)(b:List Wd)(h:w6)(hz:yx x)(hu:bo l)(hb:b.length<=1000000000)(ht: ∀i,(b.getD i default).text.length<=1000000000)(hp:kt SG h):
  ACalls Tryz.prog 17 [.agg (coC x),zf l,zV b] h (.int .i64 (pvE x l b)) h:=by
 have c1:=λl'=>vaP x l (h++l') hz hu (hp.app l')
 obtain⟨R,hR⟩:=wD (pvE x l b)
 rw[<-hR];unfold pvE at hR
 by_cases g:vaE x l=0
 case neg=>
  have k1:(vaE x l=0)=False:=eqf g;rw[ipo g]at hR;rw[hR];obtain⟨e,he⟩:=wD (vaE x l)
  rw[<-he]at c1 k1 ⊢;unfold coC at c1;refine acO MY ?_;simp (disch:=omega) only[qbO,coC,go_sem]
  repeat' first|(refine cA (c1 _) flk ?_;simp (disch:=omega) only[k1,go_sem])|exact wj|fail
 rw[ine (λhc=>hc g)]at hR;rw[g]at c1;unfold coC qo at c1;have hv:coE x=0∧wJ x l=true∧cvA x l=true:=by
  unfold vaE at g;split at g
  ·cases g
  rename_i g1;split at g
  ·cases g
  rename_i g2;have g2:rgB x l=true:=by simpa using g2
  unfold rgB at g2;rw[Bool.and_eq_true]at g2;exact⟨Classical.not_not.1 g1,g2⟩
 have ho:=kh hv.1;have hcl:=hz.cl;have k0:(0<=(x.col.length:Int))=True:=xv;have k1:((x.col.length:Int)<=9223372036854775807)=True:=xv;refine acO MY ?_;simp (disch:=omega) only[qbO,coC,qo,zV,go_sem]
 repeat' first|(refine cA (c1 _) flk ?_;simp (disch:=omega) only[k0,go_sem])|with_reducible apply aiA|exact clz|fail
 all_goals try rw[itn]
 rw[mR];have e0:gC (λ_=>AV.int .i64 0) x.col.length=gC (cwA b 0) x.col.length:=xN λk _=>rfl
 rw[e0];refine qp (T:=λi:Nat×Nat×AObj=>zw 92 [(1,zf l),(2,zV b),(3,.op h.length 1 0),(8,.osl (h.length+1) 1 1 0 x.col.length),(9,.op (h.length+2) i.2.1 0),(28,zV b),(29,.int .i64 b.length),(30,.int .i64 i.1)])
  (H:=λi=>h++ [.mem 1 26 (coC x),.mem 1 3 (gC (cwA b i.1) x.col.length),.mem i.2.1 36 (wdC (mh b i.1)),i.2.2,.emp 0,.emp 0])
  (inv:=λi=>i.1<=b.length∧qK [i.2.2] 0=true∧ ∀j,j<i.1->tO x l b j=0) (m:=λi=>b.length-i.1) (0,1,.emp 0) ⟨nzl _,rfl,λj hj=>absurd hj (nnz j)⟩ (Wk.temps ?_) ?_
 ·(simp only[zV,zf,go_sem,qg,qc,qa,qf];try exact wr)
 rintro⟨i,v,O⟩ ⟨i1,i2,i3⟩ K hK;simp only at i1 i2 i3 hK;have i2': ∀m,qK (O::m) 0=true:=λ_=>i2
 by_cases hi:i<b.length
 ·have k2:((i:Int)<b.length)=True:=xv;have hE:=wu (f:=tO x l b) hi i3;have hS:tO x l b i=0-> ∀j,j<i+1->tO x l b j=0:=λhx j hj=>by
   by_cases e:j=i
   ·subst e;exact hx
   ·exact i3 j om
  have c2:=λh=>qgq x l (b.getD i default) (mh b i) (decide (i=0)) h hu.n hcl (ht i)
  have hw:tO x l b i=wdE x l (b.getD i default) (mh b i) (decide (i=0)):=rfl;have hrg:= @GN x l (b.getD i default) (mh b i) (decide (i=0));have hbn:mh b (i+1)=b.getD i default:=by unfold mh;rw[ine om,Nat.add_sub_cancel]
  have hcs:=λu=> @WI b i u x.col.length
  have hle:=λc=>qb1 b c i
  have ei:decide ((i:Int)=0)=decide (i=0):=decide_eq_decide.2 om;obtain⟨w,hwx⟩:=wD (b.getD i default)
  have ew:=hwx.symm;obtain⟨w0,hw0⟩:=wD (mh b i)
  have ew0:=hw0.symm;simp only[ew]at c2 hw hrg hbn hcs;simp only[ew0]at c2 hw hrg;rw[<-hw]at hrg;simp only[<-hw]at c2;obtain⟨e,he⟩:=wD (tO x l b i)
  rw[<-he]at hE hS hrg;simp only[<-he]at c2;obtain⟨fb,hfb⟩:=wD (decide (i=0))
  rw[<-hfb]at ei;simp only[<-hfb]at c2;unfold coC qo wdC at c2
  by_cases g1:e=0
  case neg=>
   have k3:(e=0)=False:=eqf g1;have hV:R=e:=by rw[hR,ipo (by rw[hE g1];exact g1),hE g1]
   rw[hV];simp (disch:=omega) only[coC,qo,zV,wdC,k2,ew,ew0,ei,i2',go_sem]
   repeat' first|(refine cA (c2 _) flk ?_;simp (disch:=omega) only[k3,go_sem])|exact wj|with_reducible apply aiA|exact clz|fail
  have k3:(e=0)=True:=eqt g1;obtain⟨r1,r2⟩:=hrg g1;obtain⟨u,hu'⟩: ∃u:Nat,w.col=(u:Int):=⟨w.col.toNat,om⟩
  simp only[hu']at c2;have un:u<x.col.length:=by omega
  have t2:(0<=(u:Int))=True:=xv;have t3:((u:Int)<x.col.length)=True:=xv;have t4:(u<x.col.length)=True:=eqt un;have t5:(u+1<=x.col.length)=True:=eqt un;have gl:=kR (cwA b i) x.col.length;have gg:=xr (g:=cwA b i) un;have hst:=hcs u un hu';have hle:=hle (u:Int);have hcw:cwA b i u= .int .i64 (cW b (u:Int) i:Int):=rfl;rw[hcw]at gg;obtain⟨q,hq⟩:=wD (cW b (u:Int) i)
  rw[<-hq]at gg hst hle;have b2:((q:Int)+1<=9223372036854775807)=True:=xv;have b3:(-9223372036854775808<=(q:Int)+1)=True:=xv;simp (disch:=omega) only[coC,qo,zV,wdC,k2,ew,ew0,ei,i2',hu',Nat.zero_add,Option.isSome_some,go_sem]
  repeat' first|(refine cA (c2 _) flk ?_;simp (disch:=omega) only[k3,t2,t3,t4,t5,gl,gg,hst,Nat.mul_one,Nat.zero_add,Option.isSome_some,go_sem])|with_reducible apply aiA|exact clz|fail
  try rw[hst]
  refine hK _ _ (i+1,v,.mem (qn (some O)+1) 36 (wdC w)) ⟨hi,rfl,hS g1⟩ (by simp only;omega) ?_;simp only[hbn,wdC,hu'];refine Wk.temps ?_
  (simp only[zV,zf,go_sem,qg,qc,qa,qf];try exact wr)
 have k2:((i:Int)<b.length)=False:=xD;obtain rfl:i=b.length:=by omega
 have hn0:=jk (f:=tO x l b) (λj (hj:j<b.length)=>i3 j hj);rw[ine (λhc=>hc hn0)]at hR;clear hK;obtain⟨w0,hw0⟩:=wD (mh b b.length)
 have ew0:=hw0.symm;rw[ew0];simp (disch:=omega) only[coC,qo,zV,k2,i2',go_sem]
 repeat' first|with_reducible apply aiA|exact clz|fail
 obtain⟨cb,hcb⟩: ∃f:Nat->Int,f=qbv x l b:=⟨_,rfl⟩
 rw[<-hcb]at hR;have z0:((0:Nat):Int)=0:=rfl;have hto:0<x.tok.length:=by have:=ho.tn;have:=ho.sg;omega
 refine qp (T:=λi:Nat×AObj×AObj=>zw 92 [(1,zf l),(2,zV b),(3,.op h.length 1 0),(8,.osl (h.length+1) 1 1 0 x.col.length),(55,qo x.col),(56,.int .i64 x.col.length),(57,.int .i64 i.1)])
  (H:=λi=>h++ [.mem 1 26 (coC x),.mem 1 3 (gC (cwA b b.length) x.col.length),.mem v 36 (wdC w0),O,i.2.1,i.2.2])
  (inv:=λi=>i.1<=x.col.length∧qK [i.2.1] 0=true∧qK [i.2.2] 0=true∧ ∀j,j<i.1->cb j=0) (m:=λi=>x.col.length-i.1) (0,.emp 0,.emp 0) ⟨nzl _,rfl,rfl,λj hj=>absurd hj (nnz j)⟩ (Wk.temps ?_) ?_
 ·(simp only[zV,zf,qo,go_sem,qg,qc,qa,qf];try exact wr)
 rintro⟨i,O1,O2⟩ ⟨i1,j1,j2,j3⟩ K hK;simp only at i1 j1 j2 j3 hK;have j1': ∀m,qK (O1::m) 0=true:=λ_=>j1
 have j2': ∀m,qK (O2::m) 0=true:=λ_=>j2
 by_cases hi:i<x.col.length
 ·have k3:((i:Int)<x.col.length)=True:=xv;have t2:(0<=(i:Int))=True:=xv;have hE:=wu (f:=cb) hi j3;have hS:cb i=0-> ∀j,j<i+1->cb j=0:=λhx j hj=>by
   by_cases e:j=i
   ·subst e;exact hx
   ·exact j3 j om
  have hci:cb i=if 0<=fnU l (i:Int) then 0 else if ccB x b i=true then 0 else 9:=by rw[hcb];rfl
  have hcc:ccB x b i=(decide (cW b (i:Int) b.length=1)&&jx (λj=>decide ((b.getD j default).col=(i:Int))&&decide ((b.getD j default).text=txA x i)) b.length):=rfl;have hto2:= @Fe x l ho hv.2.2 i hi;have eF:fnR l (i:Int)=fnU l (i:Int):=ine om;have eE:fnE (i:Int)=0:=ine om;have c3:=λh=>Of l (i:Int) h hu.n
  simp only[eF,eE]at c3;have htx:txA x i=((x.tok.getD 0 []).getD ((x.col.getD i []).getD 0 0).toNat default).text:=rfl;have hcl0:=ho.cl i hi;obtain⟨c,hcx⟩:=wD (x.col.getD i [])
  have ec:=hcx.symm;rw[ec]at hto2 htx hcl0;obtain⟨t,htt⟩:=wD (c.getD 0 0)
  have et:=htt.symm;rw[et]at hto2 htx;obtain⟨tk,htk⟩:=wD (x.tok.getD 0 [])
  have etk:=htk.symm;rw[etk]at hto2 htx;obtain⟨p,hpx⟩:=wD (fnU l (i:Int))
  rw[<-hpx]at hci hto2;simp only[<-hpx]at c3;unfold zf at c3
  by_cases g1:0<=p
  ·have k4:(0<=p)=True:=eqt g1;rw[ipo g1]at hci;simp (disch:=omega) only[coC,qo,zf,qz,k3,ec,j1',go_sem]
   repeat' first|(refine cA (c3 _) flk ?_;simp (disch:=omega) only[k4,go_sem])|with_reducible apply aiA|exact clz|fail
   refine hK _ _ (i+1,.mem (qn (some O1)+1) 3 [.int .i64 (i:Int)],O2) ⟨hi,rfl,j2,hS hci⟩ (by simp only;omega) (Wk.temps ?_)
   (simp only[zV,zf,qo,go_sem,qg,qc,qa,qf];try exact wr)
  have k4:(0<=p)=False:=eqf g1;rw[ine g1]at hci;obtain⟨o1,o2⟩:=hto2 om;have k5:(0<=t)=True:=eqt o1;have k6:(t<tk.length)=True:=eqt o2;have k7:((0:Int)<c.length)=True:=eqt (by have:=ho.sg;omega);have k8:((0:Int)<x.tok.length)=True:=xv;obtain⟨tt,htt2⟩:=wD (tk.getD t.toNat default)
  have ett:=htt2.symm;rw[ett]at htx;rw[htx]at hcc;have gl:=kR (cwA b b.length) x.col.length;have gg:=xr (g:=cwA b b.length) hi;have hcw:cwA b b.length i= .int .i64 (cW b (i:Int) b.length:Int):=rfl;rw[hcw]at gg;have t4:(i<x.col.length)=True:=eqt hi;have t5:(i+1<=x.col.length)=True:=eqt hi;obtain⟨q,hq⟩:=wD (cW b (i:Int) b.length)
  rw[<-hq]at gg hcc;have c4:=λv v2 H hk hk2=>qfb b (i:Int) tt.text (h.length+4) v (h.length+5) v2 H hk hk2 hb
  simp (disch:=omega) only[coC,qo,zf,qz,k3,ec,j1',go_sem]
  repeat' first|(refine cA (c3 _) flk ?_;simp (disch:=omega) only[k4,go_sem])|with_reducible apply aiA|exact clz|fail
  refine jL ?T ?H ?h1 ?h2
  case h1=>
   simp (disch:=omega) only[qm,zX,tkC,k5,k6,k7,k8,et,etk,ett,j2',Int.toNat_zero,go_sem]
   repeat' first|with_reducible apply aiA
   all_goals first
    |omega
    |rfl
  case h2=>
  by_cases g2:q=1
  case neg=>
   have k9:((q:Int)=1)=False:=xD;rw[dqf g2,Bool.false_and]at hcc;rw[hcc,ine (by simp)]at hci;have hV:R=9:=by rw[hR,hE (by rw[hci];decide),hci]
   rw[hV];simp (disch:=omega) only[k9,t2,t4,gl,gg,Nat.mul_one,Nat.zero_add,go_sem]
   repeat' first|(refine qj ( .bool false) ?_;simp (disch:=omega) only[go_sem])|exact wj|with_reducible apply aiA|exact clz|fail
  have k9:((q:Int)=1)=True:=xv;rw[dqt g2,Bool.true_and]at hcc;have c4:=c4 (qn (some O1)+1) (qn (some O2)+1);obtain⟨B,hB⟩:=wD (jx (λj=>decide ((b.getD j default).col=(i:Int))&&decide ((b.getD j default).text=tt.text)) b.length)
  rw[<-hB]at hcc;simp only[<-hB]at c4;unfold zV at c4;simp (disch:=omega) only[k9,t2,t4,gl,gg,Nat.mul_one,Nat.zero_add,zV,go_sem]
  repeat' first|with_reducible apply aiA|exact clz|fail
  refine cG (λ_=>c4 _ ?ka ?kb) (λ_=>by exact flk) ?_
  case ka=>simp only[go_sem]
  case kb=>simp only[go_sem]
  cases B with
  |false=>
   rw[hcc,ine (by simp)]at hci;have hV:R=9:=by rw[hR,hE (by rw[hci];decide),hci]
   rw[hV];simp (disch:=omega) only[go_sem]
   repeat' first|exact wj|fail
  |true=>
   rw[hcc,ipo rfl]at hci;simp (disch:=omega) only[go_sem];refine hK _ _ (i+1,.mem (qn (some O1)+1) 3 [.int .i64 (i:Int)],.mem (qn (some O2)+1) 9 [.str tt.text]) ⟨hi,rfl,rfl,hS hci⟩ (by simp only;omega) (Wk.temps ?_)
   (simp only[zV,zf,qo,go_sem,qg,qc,qa,qf];try exact wr)
 ·have k3:((i:Int)<x.col.length)=False:=xD;rw[jk (λj (hj:j<x.col.length)=>j3 j om)]at hR;rw[hR];simp (disch:=omega) only[coC,qo,k3,go_sem]
  repeat' first|exact wj|fail
end RC
end
section
namespace Go.Proofs
open Go.Shelf Go.RowKit Go.Lib
end Go.Proofs
end
section
open Go Go.Proofs AF HY
namespace HY
end HY
end
section
open Go Go.Proofs AF HY LN
namespace HY
end HY
namespace RC
end RC
end
section
open Go Go.Proofs AF HY LN
namespace RC
def flG{α:Type}(p:Nat->Bool)(g:Nat->α):Nat->List α
 |0=> []
 |i+1=>flG p g i++if p i=true then [g i] else []
theorem LV{α:Type}{p:Nat->Bool}{g:Nat->α}{i:Nat}(hp:p i=true): ∀ {n:Nat},i<n-> ∃h:(flG p g i).length<(flG p g n).length,(flG p g n)[(flG p g i).length]=g i:=by
 intro n
 induction n with
 |zero=>intro h;exact absurd h (nnz _)
 |succ n ih=>
  intro hi
  by_cases e:i=n
  ·subst e;have e1:flG p g (i+1)=flG p g i++ [g i]:=by
    show flG p g i++(if p i=true then [g i] else [])=_;rw[ipo hp]
   refine⟨by rw[e1];simp,?_⟩;simp only[e1];rw[List.getElem_append_right (nlr _)];simp
  ·obtain⟨h1,h2⟩:=ih om;have e1:flG p g (n+1)=flG p g n++(if p n=true then [g n] else []):=rfl;refine⟨by rw[e1,lap];omega,?_⟩;simp only[e1];rw[List.getElem_append_left h1];exact h2
theorem QW{α β:Type}(p:Nat->Bool)(g:Nat->α)(k:Nat->β): ∀n,(flG p g n).length=(flG p k n).length:=by
 intro n
 induction n with
 |zero=>rfl
 |succ n ih=>
  show (flG p g n++if p n=true then [g n] else []).length=(flG p k n++if p n=true then [k n] else []).length;rw[lap,lap,ih];split<;>rfl
theorem LW{α β:Type}{p:Nat->Bool}{g:Nat->α}{k:Nat->β}: ∀ {n i:Nat} (hi:i<(flG p g n).length),∃r,r<n∧p r=true∧(flG p g n)[i]=g r∧(flG p k n)[i]? =some (k r):=by
 intro n
 induction n with
 |zero=>intro i hi;exact absurd hi (nnz _)
 |succ n ih=>
  intro i hi;have e1:flG p g (n+1)=flG p g n++(if p n=true then [g n] else []):=rfl;have e2:flG p k (n+1)=flG p k n++(if p n=true then [k n] else []):=rfl;have el:=QW p g k n
  by_cases hl:i<(flG p g n).length
  ·obtain⟨r,r1,r2,r3,r4⟩:=ih hl;refine⟨r,om,r2,?_,?_⟩
   ·simp only[e1];rw[List.getElem_append_left hl];exact r3
   ·rw[e2,List.getElem?_append_left om];exact r4
  ·cases hp:p n with
   |false=>
    rw[e1,hp,ine (by simp),lan]at hi;exact absurd hi hl
   |true=>
    have hi2:i=(flG p g n).length:=by
     rw[e1,hp,ipo rfl,lap,List.length_singleton]at hi;omega
    refine⟨n,om,hp,?_,?_⟩
    ·simp only[e1,hp,if_true];rw[List.getElem_append_right om];simp[hi2]
    ·rw[e2,hp,ipo rfl,List.getElem?_append_right om];simp[hi2,el]
structure ES where
 i:Nat
 v:Nat
 O6:AObj
 O7:AObj
 O8:AObj
 O9:AObj
 e10:Nat
 O11:AObj
 O12:AObj
 O13:AObj
 e14:Nat
 O15:AObj
structure EY where
 y:Nat
 v:Nat
 O11:AObj
 O12:AObj
 O13:AObj
 e14:Nat
 O15:AObj
structure EqZ (l:List En):Prop where
 n:l.length<=1000000000
 s: ∀i,(l.getD i default).sup.length<=1000000000
 v: ∀i,(l.getD i default).vars.length<=1000000000
 w: ∀i j,((l.getD i default).vars.getD j default).words.length<=1000000000
 g: ∀i j,((l.getD i default).vars.getD j default).sigla.length<=1000000000
structure EnZ (e:En):Prop where
 s:e.sup.length<=200
 v:e.vars.length<=1000000000
 w: ∀j,(e.vars.getD j default).words.length<=1000000000
 g: ∀j,(e.vars.getD j default).sigla.length<=200
deriving instance DecidableEq for Va
deriving instance DecidableEq for En
def tkS(s:Str):Tk:=⟨s,s,[],0,0,[]⟩
def gv:Str:= [100,101,117,115]
def qbz:Str:= [101,115,116]
def JZ:Str:= [98,111,110,117,115]
end RC
end
section
namespace AF
open Go
end AF
end
section
open Go Go.Proofs AF HY LN
namespace RC
theorem il2{f g:Nat->w7}(h0:f 0=g 0)(h1:f 1=g 1):ILe (.sl 2 f) (.sl 2 g):=ILe.sl_eq λi hi=>by
 match i,hi with
 |0,_=>exact h0
 |1,_=>exact h1
 |n+2,hi=>exact absurd hi om
theorem vl2{f g:Nat->w7}(h0:yf (f 0) (g 0))(h1:yf (f 1) (g 1)):VLe (.sl 2 f) (.sl 2 g):=VLe.sl λi hi=>by
 match i,hi with
 |0,_=>exact h0
 |1,_=>exact h1
 |n+2,hi=>exact absurd hi om
theorem ie{a b:AV}(h:a=b):ILe a b:=by rw[h];exact ILe.refl _
section
variable {q : En -> Bool} {L : List En} {J : Nat}
end
section
variable {k v w : Nat} {h l : w6} {ty : TypeId} {cs : w7}
end
theorem G6(b:List Wd)(h:w6)(hn:b.length<=1000000):ACalls Tryz.prog 37 [zV b] h (strs (pS b)) h:=by
 refine acO qcD ?_;simp (disch:=omega) only[qen,zV,go_sem];refine qp (T:=λs:Nat×Nat×AObj×AObj=>zw 19 [(6,zV b),(7,.int .i64 b.length),(8,.int .i64 s.1),(3,.osl (h.length+1) s.2.1 1 0 s.1)])
  (H:=λs=>h++ [.emp 1,zE s.2.1 9 (kc (pS (b.take s.1))),s.2.2.1,s.2.2.2,.emp 0])
  (inv:=λs=>s.1<=b.length∧qK [s.2.2.1] 0=true∧qK [s.2.2.2] 0=true) (m:=λs=>b.length-s.1) (0,1,.emp 0,.emp 0) ⟨nzl _,rfl,rfl⟩ (Wk.temps ?_) ?_
 ·(simp only[zV,go_sem,qg,qc,qa,qf];try exact wr)
 rintro⟨i,v,O1,O2⟩ ⟨i1,i2,i3⟩ K hK;simp only at i1 i2 i3 hK;have i2': ∀m,qK (O1::m) 0=true:=λ_=>i2
 have i3': ∀m,qK (O2::m) 0=true:=λ_=>i3
 have eL:(pS (b.take i)).length=i:=by unfold pS;rw[List.length_map,List.length_take];omega
 by_cases hi:i<b.length
 ·have k1:((i:Int)<b.length)=True:=xv;have hS:pS (b.take (i+1))=pS (b.take i)++ [(b.getD i default).text]:=by
   unfold pS;rw[List.take_add_one,zG hi,gdqA,zG hi,List.map_append];rfl
  obtain⟨L,hL⟩:=wD (pS (b.take i))
  rw[<-hL]at hS eL ⊢;obtain⟨w,hw⟩:=wD (b.getD i default)
  have ew:=hw.symm;rw[ew]at hS;have eC:=wF L;have eTk:List.take i (kc L)=kc L:=ltl om;simp (disch:=omega) only[zV,wdC,k1,ew,i2',i3',eC,eL,eTk,Nat.mul_one,go_sem]
  repeat' first|with_reducible apply aiA|exact clz|fail
  have eA:kc L++ [AV.str w.text]=kc (L++ [w.text]):=by simp[kc]
  have eD:(AV.str w.text::List.drop 1 (zU [AV.str []] 1))= [AV.str w.text]:=rfl;rw[eA,eD];refine hK _ _ (i+1,v+1,.mem (qn (some O1)+1) 36 (wdC w),.mem (qn (some O2)+1) 9 [.str w.text]) ⟨hi,rfl,rfl⟩ (by simp only;omega) ?_;simp only[hS,wdC];refine Wk.temps ?_
  (simp only[zV,wdC,go_sem,qg,qc,qa,qf];try exact wr)
 have k1:((i:Int)<b.length)=False:=xD;obtain rfl:i=b.length:=by omega
 rw[List.take_length]at eL ⊢;simp (disch:=omega) only[k1,go_sem]
 repeat' first|(apply qb;exact rvk;simp only[go_sem])
 exact y5 (λ_=>rfl) eL.symm
def qfr(names:List Str)(gs:List Gr)(p:Un)(v:Va):Bool:=decide (rG names gs v.sigla=0)&&jx (λj=>decide ((p.rds.getD j default).words=v.words)&&decide ((p.rds.getD j default).src=dx names gs v.sigla)) p.rds.length
def qeS(p:Un)(w:List Str):Nat->List Int
 |0=> []
 |j+1=>if (p.rds.getD j default).words=w then (p.rds.getD j default).src else qeS p w j
def okB(names:List Str)(gs:List Gr)(w:List Str)(p:Un)(e:En):Bool:=
 if jx (λj=> !qfr names gs p (e.vars.getD j default)) e.vars.length=true then false else if e.pos=false then decide (e.sup.length=0) else
  decide (rG names gs e.sup=0)&&decide (dx names gs e.sup=qeS p (VP w e.frm.toNat e.to.toNat) p.rds.length)
def jC(L:List Wd):w7:=L.flatMap wdC
theorem od(e:Wd):(wdC e).length=7:=rfl
theorem ig(L:List Wd):(jC L).length=L.length*7:=by
 unfold jC
 induction L with
 |nil=>rfl
 |cons a L ih=>rw[List.flatMap_cons,lap,ih,lco,od];omega
theorem pX(A B:List Wd):jC (A++B)=jC A++jC B:=by simp[jC]
theorem pZ(a:Wd):jC [a]=wdC a:=by simp[jC]
theorem VF(L:List Wd): ∀i,(jC L).drop (i*7)=jC (L.drop i):=by
 induction L with
 |nil=>intro i;simp[jC]
 |cons a L ih=>
  intro i;cases i with
  |zero=>simp
  |succ i=>
   have e:jC (a::L)=wdC a++jC L:=rfl;rw[List.drop_succ_cons,e,List.drop_append,od,show (i+1)*7-7=i*7 by omega,ih];rw[List.drop_eq_nil_of_le (by rw[od];omega)];rfl
theorem pY{L:List Wd}{i:Nat}(hi:i<L.length):((jC L).drop (i*7)).take 7=wdC (L.getD i default):=by
 rw[VF,List.drop_eq_getElem_cons hi,gdqA,zG hi];rfl
theorem bW(L:List Wd)(n:Nat): ∀c∈jC L,ze n c=true:=by
 intro c hc;unfold jC at hc;obtain⟨x,_,hx⟩:=List.mem_flatMap.1 hc;simp only[wdC,List.mem_cons,List.not_mem_nil,or_false]at hx;rcases hx with rfl|rfl|rfl|rfl|rfl|rfl|rfl<;>rfl
section
variable {q : Wd -> Bool} {L : List Wd} {J : Nat}
end
theorem qfT(b:List Wd)(k:Int)(h:w6)(hn:b.length<=1000000):ACalls Tryz.prog 101 [zV b,.int .i64 k] h (strs (owG b k b.length)) h:=by
 refine acO LX ?_;simp (disch:=omega) only[HL,zV,go_sem];refine qp (T:=λs:Nat×Nat×AObj×AObj=>zw 25 [(1,.int .i64 k),(8,zV b),(9,.int .i64 b.length),(10,.int .i64 s.1),(5,.osl (h.length+1) s.2.1 1 0 (owG b k s.1).length)])
  (H:=λs=>h++ [.emp 1,zE s.2.1 9 (kc (owG b k s.1)),s.2.2.1,s.2.2.2,.emp 0])
  (inv:=λs=>s.1<=b.length∧qK [s.2.2.1] 0=true∧qK [s.2.2.2] 0=true) (m:=λs=>b.length-s.1) (0,1,.emp 0,.emp 0) ⟨nzl _,rfl,rfl⟩ (Wk.temps ?_) ?_
 ·(simp only[zV,owG,go_sem,qg,qc,qa,qf];try exact wr)
 rintro⟨i,v,O1,O2⟩ ⟨i1,i2,i3⟩ K hK;simp only at i1 i2 i3 hK;have i2': ∀m,qK (O1::m) 0=true:=λ_=>i2
 have i3': ∀m,qK (O2::m) 0=true:=λ_=>i3
 have ol: ∀n,(owG b k n).length<=n:=by
  intro n
  induction n with
  |zero=>exact nlr _
  |succ n ih=>
   unfold owG;rw[lap];split
   ·simp only[lco,lnl];omega
   ·simp only[lnl];omega
 have hol:=ol i
 by_cases hi:i<b.length
 ·have k1:((i:Int)<b.length)=True:=xv;have hS:owG b k (i+1)=owG b k i++if (b.getD i default).unit=k then [(b.getD i default).text] else []:=rfl
  obtain⟨L,hL⟩:=wD (owG b k i)
  rw[<-hL]at hS hol ⊢;obtain⟨w,hw⟩:=wD (b.getD i default)
  have ew:=hw.symm;rw[ew]at hS;have eC:=wF L;have eTk:List.take L.length (kc L)=kc L:=ltl om
  by_cases g:w.unit=k
  ·have q1:(w.unit=k)=True:=eqt g;rw[ipo g]at hS;simp (disch:=omega) only[zV,wdC,k1,ew,i2',i3',q1,eC,eTk,Nat.mul_one,go_sem]
   repeat' first|with_reducible apply aiA|exact clz|fail
   have eA:kc L++ [AV.str w.text]=kc (L++ [w.text]):=by simp[kc]
   have eD:(AV.str w.text::List.drop 1 (zU [AV.str []] 1))= [AV.str w.text]:=rfl;rw[eA,eD];refine hK _ _ (i+1,v+1,.mem (qn (some O1)+1) 36 (wdC w),.mem (qn (some O2)+1) 9 [.str w.text]) ⟨hi,rfl,rfl⟩ (by simp only;omega) ?_;simp only[hS,wdC,lap,lco,lnl];refine Wk.temps ?_
   (simp only[zV,wdC,go_sem,qg,qc,qa,qf];try exact wr)
  ·have q1:(w.unit=k)=False:=eqf g;rw[ine g,lan]at hS;simp (disch:=omega) only[zV,wdC,k1,ew,i2',i3',q1,go_sem]
   repeat' first|with_reducible apply aiA|exact clz|fail
   refine hK _ _ (i+1,v,.mem (qn (some O1)+1) 36 (wdC w),O2) ⟨hi,rfl,i3⟩ (by simp only;omega) ?_;simp only[hS,wdC];refine Wk.temps ?_
   (simp only[zV,wdC,go_sem,qg,qc,qa,qf];try exact wr)
 have k1:((i:Int)<b.length)=False:=xD;obtain rfl:i=b.length:=by omega
 simp (disch:=omega) only[k1,go_sem]
 repeat' first|(apply qb;exact rvk;simp only[go_sem])
 exact y5 (λ_=>rfl) rfl
theorem qff(x:Co)(l:List Un)(h:w6)(hz:yx x)(hu:bo l)(hp:kt SG h)(h1:coE x=0)(h2:vaE x l=0):ACalls Tryz.prog 75 [.agg (coC x),zf l] h (.int .i64 0) h:=by
 have c1:=λl'=>coP x (h++l') hz (hp.app l')
 have c2:=λl'=>vaP x l (h++l') hz hu (hp.app l')
 simp only[h1]at c1;simp only[h2]at c2;unfold coC at c1 c2;refine acO Xh ?_;simp (disch:=omega) only[Le,coC,go_sem]
 repeat' first|((first|refine cA (c1 _) ?_ ?_|refine cA (c2 _) ?_ ?_);exact flk;simp (disch:=omega) only[go_sem])|exact wj|fail
theorem rdD(x:Co)(l:List Un)(b:List Wd)(u:Nat)(h:w6)(hz:yx x)(hu:bo l)(hb:b.length<=1000000)(hp:kt SG h)(h1:coE x=0)(h2:vaE x l=0)(hul:u<l.length):ACalls Tryz.prog 52 [.agg (coC x),zf l,zV b,.int .i64 (u:Int)] h (.tup [strs (owG b u b.length),.int .i64 0]) h:=by
 have c1:=λl'=>qff x l (h++l') hz hu (hp.app l') h1 h2
 have c2:=λh=>qfT b (u:Int) h hb
 have hn:=hu.n;have zu: ∀g,valL g .len [zf l]= .int .i64 l.length:=λ_=>rfl
 have zv: ∀g,okL g .len [zf l]=True:=λ_=>eqt trivial
 have k1:((u:Int)<0)=False:=xD;have k2:((l.length:Int)<=u)=False:=xD;unfold coC at c1;refine acO qcE ?_;simp (disch:=omega) only[qeo,coC,go_sem]
 repeat' first|((first|refine cA (c1 _) ?_ ?_|refine cA (c2 _) ?_ ?_);exact flk;simp (disch:=omega) only[zu,zv,k1,k2,go_sem])|exact wj|fail
end RC
end
section
open Go Go.Proofs AF
def zZ:List Nat:= []
def IF:C:=
 (v6 [⟨some 2,none,.alloc 0 33 [i6 0],[]⟩] (v6 [⟨some 3,none,.alloc 1 3 [i6 0],[]⟩,⟨none,none,.store 1,[.t 3,.c (i6 4096)]⟩] (v6 [O1 8 (.mkfn (Fn.func 275) 0) 3,⟨some
 4,none,.alloc 2 32 [.nilfn],[]⟩,ST 1 4 8] ((v6 [MV 9 0,O1 10 (.call 276 true) 9] (C.block 0 (C.range (.t 10) [11] (wc [⟨some 5,none,.alloc 3 303 [i6 0,.str [],i6 0,.nl,i6
 0,.bool false],[]⟩,ST 6 5 11]) (C.block 1 (v6 [LD 12 4,O1 13 .callv 12,O1 14 (.un UnOp.not) 13,MV 15 14,wh 16 15 4 5,wi 17 15 16,vZ 18 15 (.bin .geq) 17 (i6 16),vY 19 15 18,P1
 20 19 true (.fldA 0) 5,P1 21 19 true (.fldA 3) 20,P1 22 19 true (.load none) 21,P1 23 19 true .len 22,PC 24 19 true (.bin .gtr) 23 (i6 0),QF 25 15 false 19 24,PT 26 15 25] (v7
 26 (wa [⟨none,none,.store 1,[.t 2,.c (i6 4)]⟩]))))))).seq ((v6 [MV 27 0,O1 28 (.call 276 true) 27] (C.block 2 (C.range (.t 28) [29] (wc [⟨some 6,none,.alloc 4 303 [i6 0,.str
 [],i6 0,.nl,i6 0,.bool false],[]⟩,ST 6 6 29]) (C.block 3 (v6 [O1 30 (.load (some 6)) 6,O1 31 (.call 277 true) 30,MV 7 31] (v6 [MV 32 7,vV 33 .neq 32 0] (v7 33 (wa [MV 34 7,ST 1
 2 34])))))))).seq ((v6 [MV 35 0,O1 36 (.call 278 true) 35,O1 37 .slen 36,vV 38 .gtr 37 65536] (v7 38 (wa [⟨none,none,.store 1,[.t 2,.c (i6 4)]⟩]))).seq (wa [⟨none,none,.store
 1,[.t 2,.c (i6 0)]⟩])))))))
theorem Nr:qN Tryz.prog 240 39 5 [RV.cell 2 none] IF:=fi Tryz.f240 [2,3,4,5,6] zZ []
def IQ:C:=
 (v6 [MC 1 (.bool false)] (v6 [LD 2 0,vV 3 .sub 2 1,ST 1 0 3] (wa [LD 4 0,vV 5 .geq 4 0,MV 1 5])))
theorem NE:qN Tryz.prog 275 6 0 [RV.tmp 1] IQ:=fi Tryz.f275 [] zZ []
def IR:C:=
 (v6 [O1 1 (.box 0 196) 0,MC 2 .nilfn] (wa [O1 3 (.mkfn (Fn.func 302) 0) 1,MV 2 3]))
theorem NF:qN Tryz.prog 276 4 1 [RV.tmp 2] IR:=fi Tryz.f276 [1] zZ []
def IZ:C:=
 (v6 [O1 2 (.box 0 321) 0] (v6 [⟨some 3,none,.alloc 1 322 [.nilfn],[]⟩] (v6 [O2 4 (.mkfn (Fn.func 303) 0) 2 3,ST 1 3 4] (wc [LD 5 3,LD 6 1,ON 7 .callv [.t 5,.t 6,.c (i6 0)]]))))
theorem NQ:qN Tryz.prog 302 8 2 [] IZ:=fi Tryz.f302 [2,3] zZ []
def Dj:C:=
 (v6 [MC 6 (.bool false)] (v6 [MC 7 (.bool false)] ((v6 [MV 10 0,O1 11 .len 10,vU 12 0] (C.block 0 (v6 [BI 13 .lss 12 11] ((v8 13 0).seq ((C.block 1 (v6 [O2 14 (.idxA 4) 10 12,O1
 15 (.load (some 4)) 14,⟨some 9,none,.alloc 0 198 [i6 0,.str [],i6 0,.nl],[]⟩,ST 4 9 15] ((v6 [LD 16 2,O1 17 (.load (some 4)) 9,MV 18 1,MV 19 7,⟨some 20,none,.build [i6 0,.str
 [],i6 0,.nl,i6 0,.bool false] [(0,4),(4,1),(5,1)],[.t 17,.t 18,.t 19]⟩,O2 21 .callv 16 20,O1 22 (.un UnOp.not) 21,MV 23 22,vY 24 23 1,vZ 25 23 (.bin .leq) 24 (i6 16),vY 26 23
 25,P1 27 26 true (.load none) 3,P1 28 26 true (.fldA 3) 9,P1 29 26 true (.load none) 28,MG 30 26 true 1,PC 31 26 true (.bin .add) 30 (i6 1),PN 32 26 true .callv [.t 27,.t 29,.t
 31],P1 33 26 true (.un UnOp.not) 32,QF 34 23 false 26 33,PT 35 23 34] (v7 35 (wa [MC 6 (.bool false)]))).seq (wc [vT 36 0 9,LD 37 36,vV 38 .eql 37 1,MV 7 38])))).seq (wc [vV 39
 .add 12 1,MV 12 39])))).loop)).seq (wa [MC 6 (.bool true)]))))
theorem Bz:qN Tryz.prog 303 40 1 [RV.tmp 6] Dj:=fi Tryz.f303 [9] zZ []
def IS:C:=
 (v6 [O1 1 (.box 0 303) 0,vU 2 0] (v6 [vT 6 0 1,O1 7 (.load (some 4)) 6,⟨some 3,none,.alloc 1 198 [i6 0,.str [],i6 0,.nl],[]⟩,ST 4 3 7] ((v6 [vT 8 0 3,LD 9 8,vV 10 .lss 9 1,MV 11
 10,wh 12 11 0 3,wi 13 11 12,vZ 14 11 (.bin .gtr) 13 (i6 11),PT 15 11 14] (v7 15 (wa [vU 2 8]))).seq (v6 [vT 16 0 3,LD 17 16,O1 18 (.gix 4 12 4) 17,O1 19 (.load (some 4))
 18,⟨some 4,none,.alloc 2 324 [.str [],.bool false,.bool false,.bool false],[]⟩,ST 4 4 19] (v6 [vT 20 0 3,LD 21 20,vV 22 .eql 21 6,MV 5 22] ((C.block 0 (v6 [vT 24 1 4,LD 25
 24,O1 26 (.un UnOp.not) 25,MV 27 26,P1 28 27 true (.fldA 1) 3,P1 29 27 true (.load none) 28,PC 30 27 true (.bin .neq) 29 (.str []),PF 31 27 30,MV 32 31,wh 33 32 2 4,wi 34 32
 33,vW 35 32 (.un UnOp.not) 34,vY 36 32 35,P1 37 36 true (.fldA 2) 3,P1 38 36 true (.load none) 37,PC 39 36 true (.bin .neq) 38 (i6 0),QF 40 32 false 36 39,PT 41 32 40,MV 42
 41,wh 43 42 3 4,wi 44 42 43,vW 45 42 (.un UnOp.not) 44,vY 46 42 45,P1 47 46 true (.fldA 3) 3,P1 48 46 true (.load none) 47,P1 49 46 true .len 48,PC 50 46 true (.bin .gtr) 49
 (i6 0),QF 51 42 false 46 50,PT 52 42 51,MV 23 52] (C.cond (.t 23) (wa [vU 2 8]) (v6 [vT 54 0 3,LD 55 54,vV 56 .eql 55 1,MV 57 56,P1 58 57 true (.fldA 1) 3,P1 59 57 true (.load
 none) 58,PC 60 57 true (.bin .eql) 59 (.str []),PF 61 57 60,MV 62 61,wh 63 62 3 4,wi 64 62 63,vY 65 62 64,P1 66 65 true (.fldA 3) 3,P1 67 65 true (.load none) 66,P1 68 65 true
 .len 67,PC 69 65 true (.bin .eql) 68 (i6 0),QF 70 62 false 65 69,PT 71 62 70,MV 53 71] (C.cond (.t 53) (wa [vU 2 5]) (v6 [vT 73 0 3,LD 74 73,vV 75 .eql 74 1,MV 76 75,P1 77 76
 true (.fldA 1) 3,P1 78 76 true (.load none) 77,P1 79 76 true (.call 181 true) 78,PC 80 76 true (.bin .neq) 79 (i6 0),PF 81 76 80,MV 72 81] (C.cond (.t 72) (wa [vU 2 11]) ((v6
 [vT 83 0 3,LD 84 83,vV 85 .eql 84 10,MV 86 85,P1 87 86 true (.fldA 1) 3,P1 88 86 true (.load none) 87,P1 89 86 true (.call 134 true) 88,P1 90 86 true (.un UnOp.not) 89,PF 91 86
 90,MV 82 91] (C.cond (.t 82) C.skip (wc [vT 92 1 4,LD 93 92,MV 94 93,P1 95 94 true (.fldA 0) 3,P1 96 94 true (.load none) 95,PC 97 94 true (.bin .neq) 96 (i6 1),PF 98 94 97,MV
 99 98,P1 100 99 true (.fldA 0) 3,P1 101 99 true (.load none) 100,PC 102 99 true (.bin .neq) 101 (i6 10),PF 103 99 102,MV 104 103,P1 105 104 true (.fldA 1) 3,P1 106 104 true
 (.load none) 105,P1 107 104 true (.call 169 true) 106,P1 108 104 true (.un UnOp.not) 107,PF 109 104 108,MV 82 109]))).seq (C.cond (.t 82) (wa [vU 2 14]) ((v6 [vT 111 2 4,LD 112
 111,MV 113 112,P1 114 113 true (.fldA 2) 3,P1 115 113 true (.load none) 114,PC 116 113 true (.bin .lss) 115 (i6 1),PF 117 113 116,MV 110 117] (C.cond (.t 110) C.skip (v6 [MV
 118 5,MV 119 118,P1 120 119 true (.fldA 2) 3,P1 121 119 true (.load none) 120,PC 122 119 true (.bin .gtr) 121 (i6 64),PF 123 119 122,MV 110 123] (C.cond (.t 110) C.skip (wc [vT
 124 2 4,LD 125 124,MV 126 125,MG 127 126 true 5,P1 128 126 true (.un UnOp.not) 127,PF 129 126 128,MV 130 129,P1 131 130 true (.fldA 2) 3,P1 132 130 true (.load none) 131,PC 133
 130 true (.bin .gtr) 132 (i6 8),PF 134 130 133,MV 110 134]))))).seq (C.cond (.t 110) (wa [vU 2 2]) (v6 [vT 136 0 3,LD 137 136,vV 138 .eql 137 1,MV 139 138,P1 140 139 true
 (.fldA 5) 1,P1 141 139 true (.load none) 140,PF 142 139 141,MV 135 142] (C.cond (.t 135) (wa [vU 2 10]) (v6 [vT 144 0 3,LD 145 144,vV 146 .eql 145 4,MV 147 146,P1 148 147 true
 (.fldA 4) 1,P1 149 147 true (.load none) 148,PC 150 147 true (.bin .gtr) 149 (i6 0),PF 151 147 150,MV 143 151] (v7 143 (wa [vU 2 12])))))))))))))))).seq (wa [vU 2 0])))))))
theorem NG:qN Tryz.prog 277 152 3 [RV.tmp 2] IS:=fi Tryz.f277 [1,3,4] zZ []
def IH:C:=
 (v6 [O1 3 (.box 0 3) 1,vU 4 0,vU 5 0] ((v6 [MV 8 0,O1 9 (.call 240 true) 8,vV 10 .neq 9 0] (v7 10 (wa [vU 4 0,vU 5 1]))).seq ((v6 [LD 11 3,vV 12 .lss 11 1,MV 13 12,wi 14 13 3,vZ
 15 13 (.bin .gtr) 14 (i6 11),PT 16 13 15] (v7 16 (wa [vU 4 0,vU 5 8]))).seq (v6 [⟨some 6,none,.alloc 1 3 [i6 0],[]⟩,⟨none,none,.store 1,[.t 6,.c (i6 0)]⟩] ((v6 [MV 17 0,O1 18
 (.call 276 true) 17] (C.block 0 (C.range (.t 18) [19] (wc [⟨some 7,none,.alloc 2 303 [i6 0,.str [],i6 0,.nl,i6 0,.bool false],[]⟩,ST 6 7 19]) (C.block 1 (v6 [vT 20 0 7,vT 21 0
 20,LD 22 21,LD 23 3,BI 24 .eql 22 23] (v7 24 (wc [LD 25 6,vV 26 .add 25 1,ST 1 6 26]))))))).seq (wa [LD 27 6,MV 4 27,vU 5 0]))))))
theorem Nu:qN Tryz.prog 242 28 3 [RV.tmp 4,RV.tmp 5] IH:=fi Tryz.f242 [3,6,7] zZ []
def IG:C:=
 (v6 [vU 2 0] ((v6 [MV 6 0,O1 7 .len 6,vV 8 .gtr 7 64] (v7 8 (wa [vU 2 4]))).seq ((v6 [MV 9 0,O1 10 .len 9,vU 11 0] (C.block 0 (v6 [BI 12 .lss 11 10] ((v8 12 0).seq ((C.block 1
 (v6 [O2 13 (.idxA 2) 9 11,O1 14 (.load (some 2)) 13,⟨some 4,none,.alloc 0 277 [.str [],.str []],[]⟩,ST 2 4 14] (v6 [O1 15 (.load (some 2)) 4,O1 16 (.call 279 true) 15,MV 5 16]
 (v6 [MV 17 5,vV 18 .neq 17 0] (v7 18 (wa [MV 19 5,MV 2 19])))))).seq (wc [vV 20 .add 11 1,MV 11 20])))).loop)).seq (wa [vU 2 0]))))
theorem Ns:qN Tryz.prog 241 21 1 [RV.tmp 2] IG:=fi Tryz.f241 [4] zZ []
def IY:C:=
 (v6 [MC 4 (.str []),vU 5 0] (v6 [MV 9 0,MV 10 1,O2 11 (.call 308 true) 9 10,MV 8 11,O1 12 (.ext 0) 8,O1 13 (.ext 1) 8,MV 6 12,MV 7 13] ((v6 [MV 14 7,vV 15 .neq 14 0] (v7 15 (wa
 [MV 16 7,MC 4 (.str []),MV 5 16]))).seq (wa [MV 17 6,MV 18 6,O1 19 .len 18,vV 20 .sub 19 1,O2 21 (.idxA 1) 17 20,LD 22 21,MV 4 22,vU 5 0]))))
theorem NN:qN Tryz.prog 286 23 0 [RV.tmp 4,RV.tmp 5] IY:=fi Tryz.f286 [] zZ []
def I3:C:=
 (v6 [ON 4 (.nilo 0 1 9) [],vU 5 0] ((v6 [MV 7 0,MV 8 1,O2 9 (.call 318 true) 7 8,MV 6 9] (v6 [MV 10 6,vV 11 .neq 10 0] (v7 11 (wa [MV 12 6,ON 4 (.nilo 0 1 9) [],MV 5 12])))).seq
 (wa [MV 13 0,MV 14 1,O2 15 (.call 319 true) 13 14,O1 16 (.ext 0) 15,O1 17 (.ext 1) 15,MV 4 16,MV 5 17])))
theorem NU:qN Tryz.prog 308 18 1 [RV.tmp 4,RV.tmp 5] I3:=fi Tryz.f308 [4] zZ []
def I5:C:=
 (v6 [ON 4 (.nilo 0 1 9) [],vU 5 0] (v6 [MV 9 1,⟨some 10,none,.bslc 1 1 1 9 [.str []] [(0,1)],[.t 9]⟩,MV 6 10] (C.block 0 (C.block 1 (v6 [MV 12 0,MV 13 6,MV 14 6,O1 15 .len 14,vV
 16 .sub 15 1,O2 17 (.idxA 1) 13 16,LD 18 17,O2 19 (.call 325 true) 12 18,MV 11 19,O1 20 (.ext 0) 11,O1 21 (.ext 1) 11,MV 7 20,MV 8 21] ((v6 [MV 22 8,O1 23 (.un UnOp.not) 22]
 (v7 23 (wa [MV 24 6,MV 4 24,vU 5 0]))).seq ((v6 [MV 25 6,O1 26 .len 25,vV 27 .eql 26 4096] (v7 27 (wa [ON 4 (.nilo 0 1 9) [],vU 5 4]))).seq (wc [MV 28 6,MV 29 7,⟨some
 30,none,.bslc 2 1 1 9 [.str []] [(0,1)],[.t 29]⟩,O2 31 (.app 3 1 9 16) 28 30,MV 6 31]))))).loop)))
theorem NW:qN Tryz.prog 319 32 4 [RV.tmp 4,RV.tmp 5] I5:=fi Tryz.f319 [4,10,30,31] zZ []
def I4:C:=
 (v6 [vU 4 0] ((C.block 0 (v6 [MV 6 0,O1 7 (.call 241 true) 6,vV 8 .neq 7 0,MV 5 8] (C.cond (.t 5) (wa [vU 4 1]) (v6 [MV 10 1,O1 11 .slen 10,vV 12 .gtr 11 64,MV 9 12] (C.cond (.t
 9) (wa [vU 4 4]) (v6 [MV 14 1,O1 15 (.call 306 true) 14,O1 16 (.un UnOp.not) 15,MV 13 16] (v7 13 (wa [vU 4 11])))))))).seq (wa [vU 4 0])))
theorem NV:qN Tryz.prog 318 17 0 [RV.tmp 4] I4:=fi Tryz.f318 [] zZ []
def I1:C:=
 (v6 [MC 2 (.bool false)] ((v6 [MV 4 0,O1 5 .slen 4,vU 6 0] (C.block 0 (v6 [BI 7 .lss 6 5] ((v8 7 0).seq ((C.block 1 (v6 [MV 8 6,MV 3 8] (v6 [MV 9 0,MV 10 3,O2 11 .sidx 9 10,O1
 12 (.call 185 true) 11] (C.block 2 ((v6 [vV 14 .eql 12 1,MV 13 14] (C.cond (.t 13) C.skip (v6 [vV 15 .eql 12 2,MV 13 15] (C.cond (.t 13) C.skip (v6 [vV 16 .eql 12 3,MV 13 16]
 (C.cond (.t 13) C.skip (wc [vV 17 .eql 12 4,MV 13 17]))))))).seq (C.cond (.t 13) C.skip (wa [MC 2 (.bool false)]))))))).seq (wc [vV 18 .add 6 1,MV 6 18])))).loop)).seq (wa [MC
 2 (.bool true)])))
theorem NS:qN Tryz.prog 306 19 0 [RV.tmp 2] I1:=fi Tryz.f306 [] zZ []
def I6:C:=
 (v6 [⟨some 4,none,.alloc 0 9 [.str []],[]⟩,⟨some 5,none,.alloc 1 4 [.bool false],[]⟩] ((v6 [MV 7 0,MV 8 1,O2 9 (.call 328 true) 7 8] (C.block 0 (C.range (.t 9) [10] (wc [MV 6
 10]) (C.block 1 (wa [MV 11 6,ST 1 4 11,⟨none,none,.store 1,[.t 5,.c (.bool true)]⟩]))))).seq (wa [MV 12 1,ST 1 4 12,⟨none,none,.store 1,[.t 5,.c (.bool false)]⟩])))
theorem NZ:qN Tryz.prog 325 13 2 [RV.cell 4 none,RV.cell 5 none] I6:=fi Tryz.f325 [4,5] zZ []
def I7:C:=
 (v6 [O1 2 (.box 0 229) 0,O1 3 (.box 1 9) 1,MC 4 .nilfn] (wa [O2 5 (.mkfn (Fn.func 329) 0) 3 2,MV 4 5]))
theorem N1:qN Tryz.prog 328 6 2 [RV.tmp 4] I7:=fi Tryz.f328 [2,3] zZ []
def I8:C:=
 (v6 [LD 9 1,O1 10 .slen 9,vU 11 0] (C.block 0 (v6 [BI 12 .lss 11 10] ((v8 12 0).seq ((C.block 1 (v6 [MV 13 11,MV 4 13] (v6 [LD 14 2,O1 15 .len 14,vU 16 0] (C.block 2 (v6 [BI 17
 .lss 16 15] ((v8 17 2).seq ((C.block 3 (v6 [O2 18 (.idxA 2) 14 16,O1 19 (.load (some 2)) 18,⟨some 6,none,.alloc 0 277 [.str [],.str []],[]⟩,ST 2 6 19] (v6 [LD 21 1,MV 22 4,O2
 23 (.sslc true false) 21 22,vT 24 0 6,LD 25 24,O2 26 (.call 62 true) 23 25,MV 20 26,O1 27 (.ext 0) 20,O1 28 (.ext 1) 20,MV 7 27,MV 8 28] (v6 [MV 29 8,MV 30 29,MG 31 30 true
 0,P1 32 30 true (.load none) 1,MG 33 30 true 4,P2 34 30 true (.sslc false true) 32 33,P1 35 30 true (.fldA 1) 6,P1 36 30 true (.load none) 35,P2 37 30 true (.bin .add) 34 36,MG
 38 30 true 7,P2 39 30 true (.bin .add) 37 38,P2 40 30 true .callv 31 39,P1 41 30 true (.un UnOp.not) 40,PF 42 30 41] (v7 42 C.ret))))).seq (wc [vV 43 .add 16 1,MV 16
 43])))).loop)))).seq (wc [vV 44 .add 11 1,MV 11 44])))).loop))
theorem N2:qN Tryz.prog 329 45 1 [] I8:=fi Tryz.f329 [6] zZ []
def II:C:=
 (v6 [O1 2 (.box 0 88) 0,O1 3 (.box 1 196) 1,MC 4 .nilfn] (wa [O2 5 (.mkfn (Fn.func 280) 0) 2 3,MV 4 5]))
theorem Nv:qN Tryz.prog 243 6 2 [RV.tmp 4] II:=fi Tryz.f243 [2,3] zZ []
def IU:C:=
 (v6 [O1 3 (.box 0 306) 0] (v6 [O1 6 (.load (some 2)) 1,⟨some 7,none,.build [i6 0,.int .u8 0,i6 0,.str [],i6 0,.bool false,.str []] [(3,2)],[.t 6]⟩,⟨some 4,none,.alloc 1 269 [i6
 0,.int .u8 0,i6 0,.str [],i6 0,.bool false,.str []],[]⟩,ST 7 4 7] (v6 [⟨some 5,none,.alloc 2 307 [.nilfn],[]⟩] (v6 [ON 8 (.mkfn (Fn.func 281) 0) [.t 4,.t 3,.t 5],ST 1 5 8] (wc
 [LD 9 5,LD 10 2,O2 11 .callv 9 10])))))
theorem NI:qN Tryz.prog 280 12 3 [] IU:=fi Tryz.f280 [3,4,5] zZ []
@[go_sem]def vg:DT:= DT.one ⟨some 22,none,.fldA 2,[.t 1]⟩ (DT.one ⟨none,none,.store 1,[.t 22,.t 20]⟩ DT.nil)
@[go_sem]def vh:DT:= DT.one ⟨some 49,none,.fldA 6,[.t 1]⟩ (DT.one ⟨none,none,.store 1,[.t 49,.t 47]⟩ DT.nil)
def IV:C:=
 (v6 [MC 5 (.bool false)] ((v6 [MV 11 0,O1 12 .len 11,vU 13 0] (C.block 0 (v6 [BI 14 .lss 13 12] ((v8 14 0).seq ((C.block 1 (v6 [O2 15 (.idxA 4) 11 13,O1 16 (.load (some 4))
 15,⟨some 7,none,.alloc 0 198 [i6 0,.str [],i6 0,.nl],[]⟩,ST 4 7 16] ((C.draw (DT.one ⟨some 17,none,.fldA 0,[.t 7]⟩ (DT.one ⟨some 18,none,.load none,[.t 17]⟩ (DT.one ⟨some
 21,none,.fldA 0,[.t 1]⟩ ((DT.one ⟨some 19,none,.fldA 2,[.t 7]⟩ ((DT.one ⟨some 20,none,.load none,[.t 19]⟩ (DT.one ⟨none,none,.store 1,[.t 21,.t 18]⟩ vg)).two (DT.one
 ⟨none,none,.store 1,[.t 21,.t 18]⟩ (DT.one ⟨some 20,none,.load none,[.t 19]⟩ vg)))).two (DT.one ⟨none,none,.store 1,[.t 21,.t 18]⟩ (DT.one ⟨some 19,none,.fldA 2,[.t 7]⟩ (DT.one
 ⟨some 20,none,.load none,[.t 19]⟩ vg)))))))).seq (v6 [vT 23 0 7,LD 24 23] (C.block 2 (v6 [vV 53 .eql 24 2,MV 52 53] (C.cond (.t 52) (wc [vT 54 3 1,vT 55 1 54,LD 56 55,vV 57
 .add 56 1,vT 58 3 1,vT 59 1 58,ST 1 59 57]) (v6 [vV 61 .eql 24 3,MV 60 61] (C.cond (.t 60) (wc [vT 62 1 7,LD 63 62,⟨some 64,none,.build [.str [],i6 0] [(0,1)],[.t 63]⟩,vT 65 3
 1,ST 2 65 64]) (v6 [vV 67 .eql 24 1,MV 66 67] (C.cond (.t 66) (v6 [vT 68 1 7,LD 69 68,O1 70 .slen 69,vU 71 0] (C.block 3 (v6 [BI 72 .lss 71 70] ((v8 72 3).seq ((C.block 4 (v6
 [MV 73 71,MV 8 73] (v6 [vT 74 1 7,LD 75 74,MV 76 8,O2 77 .sidx 75 76,vT 78 1 1,ST 1 78 77] (v6 [LD 79 2,O1 80 (.load (some 7)) 1,O2 81 .callv 79 80,O1 82 (.un UnOp.not) 81] (v7
 82 (wa [MC 5 (.bool false)])))))).seq (wc [vV 83 .add 71 1,MV 71 83])))).loop)) ((v6 [vV 85 .eql 24 6,MV 84 85] (C.cond (.t 84) C.skip (v6 [vV 86 .eql 24 5,MV 84 86] (C.cond
 (.t 84) C.skip (wc [vV 87 .eql 24 4,MV 84 87]))))).seq (C.cond (.t 84) (v6 [LD 88 2,O1 89 (.load (some 7)) 1,O2 90 .callv 88 89,O1 91 (.un UnOp.not) 90] (v7 91 (wa [MC 5 (.bool
 false)]))) (v6 [O1 25 (.load (some 7)) 1,⟨some 9,none,.alloc 1 269 [i6 0,.int .u8 0,i6 0,.str [],i6 0,.bool false,.str []],[]⟩,ST 7 9 25] (v6 [vT 26 5 1,LD 27 26,MV 28 27,wh 29
 28 0 7,wi 30 28 29,vZ 31 28 (.bin .eql) 30 (i6 7),PT 32 28 31,vT 33 5 1,ST 1 33 32] ((v6 [vT 34 0 7,LD 35 34,vV 36 .eql 35 11] (v7 36 (wc [vT 37 1 7,LD 38 37,vT 39 6 1,ST 1 39
 38]))).seq (v6 [LD 40 3,vT 41 3 7,LD 42 41,O2 43 .callv 40 42,MV 10 43] ((C.draw (DT.one ⟨some 44,none,.fldA 5,[.t 9]⟩ (DT.one ⟨some 45,none,.load none,[.t 44]⟩ (DT.one ⟨some
 48,none,.fldA 5,[.t 1]⟩ ((DT.one ⟨some 46,none,.fldA 6,[.t 9]⟩ ((DT.one ⟨some 47,none,.load none,[.t 46]⟩ (DT.one ⟨none,none,.store 1,[.t 48,.t 45]⟩ vh)).two (DT.one
 ⟨none,none,.store 1,[.t 48,.t 45]⟩ (DT.one ⟨some 47,none,.load none,[.t 46]⟩ vh)))).two (DT.one ⟨none,none,.store 1,[.t 48,.t 45]⟩ (DT.one ⟨some 46,none,.fldA 6,[.t 9]⟩ (DT.one
 ⟨some 47,none,.load none,[.t 46]⟩ vh)))))))).seq (v6 [MV 50 10,O1 51 (.un UnOp.not) 50] (v7 51 (wa [MC 5 (.bool false)]))))))))))))))))))))).seq (wc [vV 92 .add 13 1,MV 13
 92])))).loop)).seq (wa [MC 5 (.bool true)])))
theorem NJ:qN Tryz.prog 281 93 2 [RV.tmp 5] IV:=fi Tryz.f281 [7,9] zZ []
def IW:C:=
 (v6 [MC 2 .nilp] (wa [MV 3 0,O1 4 .nilchk 3,vT 5 0 4,LD 6 5,MV 7 0,O1 8 .nilchk 7,vT 9 0 8,LD 10 9,O1 11 .len 10,vV 12 .sub 11 1,O2 13 (.idxA 6) 6 12,MV 2 13]))
theorem NL:qN Tryz.prog 284 14 0 [RV.tmp 2] IW:=fi Tryz.f284 [] zZ []
def Db:C:=
 (v6 [O1 1 (.box 0 92) 0,MC 2 (.bool false)] (wa [vT 3 0 1,LD 4 3,O1 5 .slen 4,vV 6 .gtr 5 64,MV 2 6]))
theorem Bt:qN Tryz.prog 246 7 1 [RV.tmp 2] Db:=fi Tryz.f246 [1] zZ []
def qex:C:=
 (v6 [ON 2 (.nilo 0 1 9) []] (v6 [ON 3 (.nilo 1 1 9) []] ((v6 [MV 6 0,O1 7 .len 6,vU 8 0] (C.block 0 (v6 [BI 9 .lss 8 7] ((v8 9 0).seq ((C.block 1 (v6 [O2 10 (.idxA 6) 6 8,O1 11
 (.load (some 6)) 10,⟨some 5,none,.alloc 2 92 [.str [],.str [],.str [],i6 0,i6 0,.str []],[]⟩,ST 6 5 11] (wc [MV 12 3,vT 13 0 5,LD 14 13,⟨some 15,none,.bslc 3 1 1 9 [.str []]
 [(0,1)],[.t 14]⟩,O2 16 (.app 4 1 9 16) 12 15,MV 3 16]))).seq (wc [vV 17 .add 8 1,MV 8 17])))).loop)).seq (wa [MV 18 3,MV 2 18]))))
theorem qcQ:qN Tryz.prog 91 19 5 [RV.tmp 2] qex:=fi Tryz.f91 [2,3,5,15,16] zZ []
end
section
open Go Go.Proofs AF HY LN
namespace RC
abbrev frmN:Nat:=4
def frmC:w7:= [.str [],.bool false,.bool false,.bool false,.str [],.bool true,.bool false,.bool false,.str [108,98],.bool false,.bool false,.bool false,.str [112,98],.bool true,.bool false,.bool false,
 .str [115,101,99],.bool true,.bool false,.bool false,.str [118],.bool false,.bool false,.bool false,.str [103,97,112],.bool false,.bool true,.bool false,.str [117,110,99,108,101,97,114],.bool false,.bool false,.bool true,
 .str [97,100,100],.bool false,.bool true,.bool true,.str [100,101,108],.bool false,.bool true,.bool true,.str [97,98],.bool true,.bool false,.bool true,.str [110,97,109,101],.bool true,.bool false,.bool true]
def Om:w7:= [.str [],.bool true,.bool false,.bool false]
theorem BD:(frmC.drop ((1:Int).toNat*4)).take 4=Om:=rfl
def PF(h:w6):Prop:=kt SG h∧z7 h frmN frmC
theorem PF.app{h:w6}(hp:PF h)(l:w6):PF (h++l):=⟨hp.1.app l,hp.2.app⟩
def ndC(s:Str):w7:= [.int .i64 1,.str s,.int .i64 0,.nl]
def kp(s:Str):AV:= .sl 1 λ_=>ndC s
def plC(s:Str):w7:= [.int .i64 1,.str s,.int .i64 0,.nl,.int .i64 0,.bool false]
theorem qfY(s:Str)(h:w6)(hs:s≠ [])(hl:s.length<=1000000)(hc:jc s=0)(hg:z7 h frmN frmC):ACalls Tryz.prog 277 [.agg (plC s)] h (.int .i64 0) h:=by
 have c1:=λh=>qdx s h om
 rw[hc]at c1;have k1:(s= [])=False:=eqf hs;refine acO NG ?_;simp (disch:=omega) only[IS,plC,go_sem]
 repeat' first|(apply qb;exact rvk;simp only[go_sem];apply qe)|(with_reducible first|intro _|apply aiA)|exact clz|fail
 refine BJ (cs:=frmC) hg.app ⟨by decide,by decide⟩ rfl ?_;rw[BD];simp (disch:=omega) only[Om,k1,go_sem]
 repeat' first|(refine qj ( .bool false) ?_;simp (disch:=omega) only[go_sem])|(refine cG (λe=>c1 _) flk ?_;simp (disch:=omega) only[go_sem])|(apply qb;exact rvk;simp only[go_sem];first|exact qi|apply qe)|(with_reducible first|intro _|apply aiA)|exact clz|fail
end RC
end
section
open Go Go.Proofs AF HY LN
namespace AF
mutual
theorem kV{n m:Nat}(h:n<=m): ∀c,ze n c=true->ze m c=true
 | .osl k v z o l,hc=>by simp only[ze,decide_eq_true_eq]at*;omega
 | .op k v o,hc=>by simp only[ze,decide_eq_true_eq]at*;omega
 | .mp k v,hc=>by simp only[ze,decide_eq_true_eq]at*;omega
 | .yld k,hc=>by simp only[ze,decide_eq_true_eq]at*;omega
 | .agg cs,hc=>by simp only[ze]at*;exact wN h cs hc
 | .tup cs,hc=>by simp only[ze]at*;exact wN h cs hc
 | .fn f a b,hc=>by simp only[ze,Bool.and_eq_true]at*;exact⟨wN h a hc.1,wN h b hc.2⟩
 | .gd g v,hc=>by
  cases g with
  |false=>rfl
  |true=>simp only[ze,Bool.not_true,Bool.false_or]at*;exact kV h v hc
 | .undef,_=>rfl
 | .bool _,_=>rfl
 | .int _ _,_=>rfl
 | .str _,_=>rfl
 | .sl _ _,_=>rfl
 | .ip _,_=>rfl
 | .nilp,_=>rfl
 | .nl,_=>rfl
 | .el,_=>rfl
 | .nilfn,_=>rfl
 | .ifc,_=>rfl
 | .nilif,_=>rfl
 | .anyb,_=>rfl
theorem wN{n m:Nat}(h:n<=m): ∀cs,ze.lowVs n cs=true->ze.lowVs m cs=true
 | [],_=>rfl
 |c::r,hc=>by simp only[ze.lowVs,Bool.and_eq_true]at*;exact⟨kV h c hc.1,wN h r hc.2⟩
end
theorem lowO_mono{n m:Nat}(h:n<=m){o:AObj}(ho:lowO n o):lowO m o:=by
 cases o with
 |mem v ty cs=>exact λc hc=>kV h c (ho c hc)
 |emp v=>trivial
 |lp s ts L=>exact λc hc=>kV h c (ho c hc)
 |map v es=>exact λp hp=>kV h p.2 (ho p hp)
 |pin bs G=>trivial
theorem LowI.retX{h hh xs:w6}{ts:w7}{L:LInfo}(s:LS)(hl:LowI h hh)(hts: ∀c∈ts,ze (h.length+1) c=true):
  (hh++ .lp s ts L::xs).length=(h++ .lp .ready ts L::xs).length∧ ∀o∈hh++ .lp s ts L::xs,o∈h++ .lp .ready ts L::xs∨lowO (h++ .lp .ready ts L::xs).length o:=by
 refine⟨by simp[hl.1],λo ho=> ?_⟩;rcases List.mem_append.1 ho with ho|ho
 ·rcases hl.2 o ho with h1|⟨h1,_⟩
  ·exact .inl (List.mem_append_left _ h1)
  ·exact .inr (lowO_mono (by simp) h1)
 ·rcases List.mem_cons.1 ho with rfl|ho
  ·exact .inr (λc hc=>kV (by simp) c (hts c hc))
  ·exact .inl (List.mem_append_right _ (List.mem_cons_of_mem _ ho))
end AF
namespace RC
theorem qgo(d:Int)(a b:AV)(h:w6):ACalls Tryz.prog 303 [.nl,.int .i64 d,a,b] h (.bool true) h:=by
 refine acO Bz ?_;simp (disch:=omega) only[Dj,go_sem];refine qp (T:=λ_:Unit=>zw 40 [(1,.int .i64 d),(2,a),(3,b),(7,.bool false),(10,.nl),(11,.int .i64 0),(12,.int .i64 0)]) (H:=λ_=>h++ [.emp 0]) (inv:=λ_=>True) (m:=λ_=>0) () trivial (Wk.temps ?_) ?_
 ·(simp only[go_sem,qg,qc,qa,qf];try exact wr)
 rintro⟨⟩ _ K hK;simp (disch:=omega) only[go_sem]
 repeat' first|exact wj|(with_reducible first|intro _|apply aiA)|exact clz|fail
def cyl(n:Nat):AObj:= .mem 1 321 [.yld n]
def cwk(n:Nat):AObj:= .mem 1 322 [.fn (.func 303) [] [.op (n+1) 1 0,.op (n+2) 1 0]]
section
variable {n : Nat} {hh m : w6} {st : LS} {ts : w7} {LI : LInfo}
theorem Ph(hl:hh.length=n):cellsOf (hh++ .lp st ts LI::cyl n::cwk n::m) (n+1) 1=some [.yld n]:=qL (show qv _ _=some (cyl n) by subst hl;unfold qv;simp)
theorem Pi(hl:hh.length=n):cellsOf (hh++ .lp st ts LI::cyl n::cwk n::m) (n+2) 1=some [.fn (.func 303) [] [.op (n+1) 1 0,.op (n+2) 1 0]]:=qL (show qv _ _=some (cwk n) by subst hl;unfold qv;simp)
end
theorem wlk1(s:Str)(h:w6)(ts:w7)(LI:LInfo)(S:Nat->w6->Prop)(E:LS->w6->Prop)(hS: ∀i hh,S i hh->LowI h hh)(hE: ∀s hh,E s hh->LowI h hh)
  (body: ∀i hh tl,(hi:i< [[AV.agg (plC s)]].length)->S i hh->kf Tryz.prog h.length ([[AV.agg (plC s)]][i]) (hh++ .lp .ready ts LI::tl) (λr h'=> ∃hh',(r= .bool true∧S (i+1) hh'∧h'=hh'++ .lp .ready ts LI::tl)∨(∃s,r= .bool false∧E s hh'∧h'=hh'++ .lp s ts LI::tl)))
  (start:S 0 h) (hts: ∀c∈ts,ze (h.length+1) c=true):
  jo Tryz.prog 303 [kp s,.int .i64 0,.op (h.length+1) 1 0,.op (h.length+2) 1 0] (h++ [.lp .ready ts LI,cyl h.length,cwk h.length])
   (λr h'=> ∃hh',(r= .bool true∧S 1 hh'∧h'=hh'++ [.lp .ready ts LI,cyl h.length,cwk h.length])∨(∃st,r= .bool false∧E st hh'∧h'=hh'++ [.lp st ts LI,cyl h.length,cwk h.length])):=by
 refine acQ Bz ?_;simp (disch:=omega) only[Dj,kp,ndC,go_sem];refine qp (T:=λi:Nat×w6×AObj=>zw 40 [(1,.int .i64 0),(2,.op (h.length+1) 1 0),(3,.op (h.length+2) 1 0),(7,.bool (decide (i.1=1))),(10,kp s),(11,.int .i64 ((1:Nat):Int)),(12,.int .i64 i.1)])
  (H:=λi=>i.2.1++ [.lp .ready ts LI,cyl h.length,cwk h.length]++ [i.2.2])
  (inv:=λi=>i.1<=1∧S i.1 i.2.1∧qK [i.2.2] 0=true) (m:=λi=>1-i.1) (0,h,.emp 0) ⟨nzl _,start,rfl⟩ (Wk.temps ?_) ?_
 ·(simp only[kp,ndC,go_sem,qg,qc,qa,qf];try exact wr)
 rintro⟨i,hh,O⟩ ⟨i1,i2,i3⟩ K hK;simp only at i1 i2 i3 hK;obtain⟨hlen,hlow⟩:=hS _ _ i2;have hb:(h++ [AObj.lp LS.ready ts LI,cyl h.length,cwk h.length]).length=(hh++ [AObj.lp LS.ready ts LI,cyl h.length,cwk h.length]).length:=by simp[hlen]
 rw[hb];have i3': ∀m,qK (O::m) 0=true:=λ_=>i3
 have ea: ∀(g:w6) m,g++ [AObj.lp LS.ready ts LI,cyl h.length,cwk h.length]++m=g++ .lp .ready ts LI::cyl h.length::cwk h.length::m:=λg m=>by simp
 have d1: ∀m,cellsOf (hh++ [AObj.lp LS.ready ts LI,cyl h.length,cwk h.length]++m) (h.length+1) 1=some [.yld h.length]:=λm=>by rw[ea];exact Ph hlen
 have d2: ∀m,cellsOf (hh++ [AObj.lp LS.ready ts LI,cyl h.length,cwk h.length]++m) (h.length+2) 1=some [.fn (.func 303) [] [.op (h.length+1) 1 0,.op (h.length+2) 1 0]]:=λm=>by rw[ea];exact Pi hlen
 by_cases hi:i<1
 ·obtain rfl:i=0:=by omega
  have hb':=λO'=>body 0 hh [cyl h.length,cwk h.length,O'] (by simp) i2
  simp (disch:=omega) only[kp,ndC,i3',d1,go_sem]
  repeat' first|(with_reducible first|intro _|apply aiA)|exact clz|fail
  ·exact⟨.ready,ts,LI,by rw[ea];exact kT hlen⟩
  ·rw[ea];refine kf.mono ?_ (hb' _);rintro v h' ⟨hh',⟨rfl,hn,rfl⟩|⟨st,rfl,hs',rfl⟩⟩
   ·have hl':=(hS _ _ hn).1;have hq:(hh++ [AObj.lp LS.ready ts LI,cyl h.length,cwk h.length]).length=(hh'++ [AObj.lp LS.ready ts LI,cyl h.length,cwk h.length]).length:=by simp[hlen,hl']
    rw[<-ea,hq];have e1: ∀m,cellsOf (hh'++ [AObj.lp LS.ready ts LI,cyl h.length,cwk h.length]++m) (h.length+1) 1=some [.yld h.length]:=λm=>by rw[ea];exact Ph hl'
    have e2: ∀m,cellsOf (hh'++ [AObj.lp LS.ready ts LI,cyl h.length,cwk h.length]++m) (h.length+2) 1=some [.fn (.func 303) [] [.op (h.length+1) 1 0,.op (h.length+2) 1 0]]:=λm=>by rw[ea];exact Pi hl'
    simp (disch:=omega) only[e2,go_sem]
    repeat' first|(refine qy (qgo _ _ _ _) ?_;simp (disch:=omega) only[go_sem])|(with_reducible first|intro _|apply aiA)|exact clz|fail
    refine hK _ _ (1,hh',.mem (qn (some O)+1) 198 (ndC s)) ⟨nlr _,hn,rfl⟩ (by simp only;omega) (Wk.temps ?_)
    (simp only[kp,ndC,go_sem,qg,qc,qa,qf];try exact wr)
   ·simp (disch:=omega) only[go_sem]
    repeat' first|(with_reducible first|intro _|apply aiA)|exact clz|fail
    obtain⟨r1,r2⟩:=(hE _ _ hs').retX (L:=LI) (xs:= [cyl h.length,cwk h.length]) st hts;have eO: ∀O',hh'++ .lp st ts LI::cyl h.length::cwk h.length:: [O']=(hh'++ [.lp st ts LI,cyl h.length,cwk h.length])++ [O']:=λ_=>by simp
    rw[eO];exact wG ⟨trivial,trivial⟩ r1 r2 ⟨hh',.inr ⟨st,rfl,hs',rfl⟩⟩ (qi)
 ·obtain rfl:i=1:=by omega
  simp (disch:=omega) only[kp,ndC,go_sem]
  repeat' first|(with_reducible first|intro _|apply aiA)|exact clz|fail
  obtain⟨r1,r2⟩:=(hS _ _ i2).retX (L:=LI) (xs:= [cyl h.length,cwk h.length]) .ready hts;exact wG ⟨trivial,trivial⟩ r1 r2 ⟨hh,.inl ⟨rfl,i2,rfl⟩⟩ (qi)
end RC
end
section
namespace Go.Proofs
open Go.Shelf Go.RowKit
set_option maxHeartbeats 1000000 in
set_option maxRecDepth 100000 in
theorem mF(b d:Nat)(w:World)(h0:w.cell? ⟨b,d,none⟩=some (.pointer (some ⟨b,d,none⟩))):
  Calls Tryz.prog 159 #[.pointer (some ⟨b,d,none⟩)] w λe w'=>e= .returned (.tuple #[])∧w'=w:=by
 obtain⟨j,hj,_⟩:=Option.map_eq_some_iff.1 (show (Tryz.prog.info? 158).map (·.size)=some 2 by kernel_rfl)
 go_enter Tryz.func159,Tryz.ntmps159
 go_wp2
 rw[Lib.run_neq_ptr_same w _ Tryz.underlying155 hj]
 go_wp2
 go_end0
 exact⟨rfl,rfl⟩
set_option maxHeartbeats 1000000 in
set_option maxRecDepth 100000 in
theorem fu(b d ty n:Nat)(w:World)(h0:w.cell? ⟨b,d,none⟩=some (.pointer none))(hn:d+2<=n)(hsh:w.shape? b=some (ty,n))(hfz:w.frozen? ⟨b,d,none⟩=false)
  (hl:liesAt Tryz.prog Tryz.prog.depth ty (n/Tryz.prog.cellsOf ty) d 158 1=true):
  Calls Tryz.prog 159 #[.pointer (some ⟨b,d,none⟩)] w λe w'=>e= .returned (.tuple #[])∧w'=w.setCell ⟨b,d,none⟩ (.pointer (some ⟨b,d,none⟩)):=by
 obtain⟨j,hj,hjs⟩:=Option.map_eq_some_iff.1 (show (Tryz.prog.info? 158).map (·.size)=some 2 by kernel_rfl)
 go_enter Tryz.func159,Tryz.ntmps159
 go_wp2
 rw[Lib.run_to_unsafe w ⟨b,d,none⟩ Tryz.underlying155 Tryz.underlying240 hj (by rw[hjs];decide) hsh (show d<n by omega)];simp only[Result.andThen];rw[Oper.upon_value]
 go_wp2
 rw[run_callFunc_extern Tryz.func208 (by kernel_rfl) (by kernel_rfl) (by kernel_rfl) (e:=Extern.AbiNoEscape.same) (by kernel_rfl)];rw[Lib.run_noEscape];simp only[Result.andThen];rw[Oper.upon_value]
 go_wp2
 rw[Lib.run_from_unsafe w ⟨b,d,none⟩ Tryz.underlying240 Tryz.underlying155 hj hsh hl];simp only[Result.andThen];rw[Oper.upon_value]
 go_wp2
 go_end0
 exact⟨rfl,rfl⟩
set_option maxHeartbeats 1000000 in
set_option maxRecDepth 100000 in
theorem pM(b d g cap:Nat)(l:List UInt8)(cur:Array Value)(w:World)(h0:l≠ [])(c0:w.cell? ⟨b,d+1,none⟩=some (.slice (some ⟨g,0,none⟩) l.length cap))(hg:w.heap[g]? =some (.cells cur 5 (0,0)))
  (hnc:l.length<=cap) (hcm:cap<=maxLen) (hcs:cap<=cur.size) (hcell: ∀(j:Nat) x,l[j]? =some x->w.cell? ⟨g,j,none⟩=some (.int .u8 x.toNat)):
  Calls Tryz.prog 116 #[.pointer (some ⟨b,d,none⟩)] w λe w'=>e= .returned (.string ⟨l.toArray⟩)∧w'=w.drew.freeze ⟨g,0,none⟩ l.length:=by
 have hl0:l.length≠0:=by simpa using h0
 have c1:w.drew.cell? ⟨b,d+1,none⟩=some (.slice (some ⟨g,0,none⟩) l.length cap):=c0;have hSD:(Builtin.unsafeSliceData_ #[156] 202 #[.slice (some ⟨g,0,none⟩) l.length cap]).run Tryz.prog w.drew= .ok (.pointer (some ⟨g,0,none⟩)) w.drew:=
  Lib.run_unsafeSliceData_row _ _ _ _ _ _ om
 have hUS:(Builtin.unsafeString_ #[202,3] 9 #[.pointer (some ⟨g,0,none⟩),.int .i64 l.length]).run Tryz.prog w.drew= .ok (.string ⟨l.toArray⟩) (w.drew.freeze ⟨g,0,none⟩ l.length):=by
  refine Lib.run_unsafeString_row w.drew 202 3 9 5 Tryz.underlying202 (by kernel_rfl) g cur.size (by have hg':w.drew.heap[g]? =some (.cells cur 5 (0,0)):=hg;simp[World.shape?,hg']) l h0 om (by unfold maxLen at hcm;omega) ?_;intro j x hx
  have:=hcell j x hx
  cases j with
  |zero=>exact this
  |succ j=>
   have e:(⟨g,0,none⟩:Addr).add (j+1)=⟨g,j+1,none⟩:=by
    unfold Addr.add;rw[ine (Nat.succ_ne_zero j)];simp only[Nat.zero_add]
   rw[e];exact this
 have mixed:Tryz.prog.follows .mixedOrders=true:=by kernel_rfl
 go_enter Tryz.func116,Tryz.ntmps116
 go_wp2
 go_region_o
 all_goals (go_wp2;go_ret;exact⟨rfl,rfl⟩)
set_option maxHeartbeats 2000000 in
set_option maxRecDepth 100000 in
theorem pL(b d:Nat)(w:World)(c0:w.cell? ⟨b,d+1,none⟩=some (.slice none 0 0)):
  Calls Tryz.prog 116 #[.pointer (some ⟨b,d,none⟩)] w λe w'=>e= .returned (.string ⟨#[]⟩)∧w'=w.drew:=by
 have hUS: ∀(W:World) (q:Option Addr),(Builtin.unsafeString_ #[202,3] 9 #[.pointer q,.int .i64 0]).run Tryz.prog W= .ok (.string .empty) W:=λW q=>Lib.run_unsafeString_none W _ _ _ q
 have c1:w.drew.cell? ⟨b,d+1,none⟩=some (.slice none 0 0):=c0;have hSD:(Builtin.unsafeSliceData_ #[156] 202 #[.slice none 0 0]).run Tryz.prog w.drew= .ok (.pointer none) w.drew:=rfl;have mixed:Tryz.prog.follows .mixedOrders=true:=by kernel_rfl
 go_enter Tryz.func116,Tryz.ntmps116
 go_wp2
 go_region_o
 all_goals (go_wp2;go_ret;exact⟨rfl,rfl⟩)
end Go.Proofs
end
section
open Go Go.Proofs AF
def Zt:List Nat:= [159,118,307,116,285]
def HN:C:=
 (v6 [vU 4 0,MC 5 .nilif] (v6 [MV 6 0,O1 7 (.call 159 false) 6] (v6 [MV 8 0,MV 9 0,O1 10 .nilchk 9,vT 11 1 10,LD 12 11,MV 13 1,O2 14 (.apps 0 5) 12 13,O1 15 .nilchk 8,vT 16 1
 15,ST 1 16 14] (wa [MV 17 1,O1 18 .slen 17,MV 4 18,MC 5 .nilif]))))
theorem LZ:qN Tryz.prog 118 19 1 [RV.tmp 4,RV.tmp 5] HN:=fi Tryz.f118 [14] Zt []
def I2:C:=
 (v6 [MC 4 .nilif] (v6 [MV 5 0,O1 6 (.call 159 false) 5] (v6 [MV 7 0,MV 8 0,O1 9 .nilchk 8,vT 10 1 9,LD 11 10,MV 12 1,⟨some 13,none,.bslc 0 1 1 5 [.int .u8 0] [(0,1)],[.t 12]⟩,O2
 14 (.app 1 1 5 1) 11 13,O1 15 .nilchk 7,vT 16 1 15,ST 1 16 14] (wa [MC 4 .nilif]))))
theorem NT:qN Tryz.prog 307 17 2 [RV.tmp 4] I2:=fi Tryz.f307 [13,14] Zt []
end
