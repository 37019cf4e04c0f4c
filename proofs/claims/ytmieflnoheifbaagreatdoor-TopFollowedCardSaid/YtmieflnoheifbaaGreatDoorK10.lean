import Derived.Test.YtmieflnoheifbaaGreatDoorK9
import Derived.Test.YtmieflnoheifbaaGreatDoorK3
import Derived.Test.YtmieflnoheifbaaGreatDoorK5
import Derived.Test.YtmieflnoheifbaaGreatDoorK8
import Derived.Test.YtmieflnoheifbaaGreatDoorProg
import Derived.Shelf.Slices.In.SortAlone
import Derived.Shelf.Slices.In.CompactI
import Derived.Sort.OwnSortedInts
set_option linter.all false
set_option maxHeartbeats 64000000
set_option maxRecDepth 100000
section
open Go Go.Proofs AF HY LN
namespace RC
theorem X6(L:List Int)(src:Int):jm (λj=>decide (src=L.getD j 0)) L.length=decide (src∈L):=by
 by_cases h:src∈L
 ·rw[dqt h,qP];obtain⟨j,hj,e⟩:=List.getElem_of_mem h;exact⟨j,hj,dqt (by rw[gdqA,zg hj];exact e.symm)⟩
 ·rw[dqf h,qq];intro j hj;refine dqf λe=>h ?_
  rw[e,gdqA,zg hj];exact List.getElem_mem hj
theorem FL(L:List Int)(x:Int)(h:JN)(hn:L.length<=1000000000):ACalls Tryz.prog 22 [qx L,.int .i64 x] h (.bool (decide (x∈L))) h:=by
 have:=Im OD L.length (λj=> .i (L.getD j 0)) (.i x) h (λ_ _=>rfl) oma
 simp only[At.v,At.i.injEq]at this;have c:=W4 Ol ⟨rfl,rfl⟩ ⟨rfl,rfl⟩ this;rw[<-X6];exact c
def stV(names:List Str)(gs:List Gr)(e:En):AV:= .sl e.vars.length λj=> [qx (aw names gs (e.vars.getD j default).sigla)]
def msV(names:List Str)(gs:List Gr)(L:List En):AV:= .sl L.length λi=> [stV names gs (L.getD i default)]
theorem JQ(names:List Str)(gs:List Gr)(e:En):(stV names gs e).flag=true:=rfl
theorem QW(names:List Str)(gs:List Gr)(e:En):(stV names gs e).strip=stV names gs e:=rfl
theorem JO(names:List Str)(gs:List Gr)(L:List En):(msV names gs L).flag=true:=rfl
theorem QU(names:List Str)(gs:List Gr)(L:List En):(msV names gs L).strip=msV names gs L:=rfl
theorem Ai{fz:Nat->Bool}{h:JN}{n:Nat}(names:List Str)(gs:List Gr)(e:En):frz fz h (n+1) (stV names gs e)=stV names gs e:=rfl
theorem BE{fz:Nat->Bool}{h:JN}{n:Nat}(names:List Str)(gs:List Gr)(e:En):rei fz h (n+1) (stV names gs e)=stV names gs e:=rfl
theorem Ah{fz:Nat->Bool}{h:JN}{n:Nat}(names:List Str)(gs:List Gr)(L:List En):frz fz h (n+1) (msV names gs L)=msV names gs L:=rfl
theorem BD{fz:Nat->Bool}{h:JN}{n:Nat}(names:List Str)(gs:List Gr)(L:List En):rei fz h (n+1) (msV names gs L)=msV names gs L:=rfl
attribute [go_sem] JQ QW JO QU Ai BE Ah BD
end RC
end
section
open Go Go.Proofs AF HY LN
namespace AF
theorem zn{P:Program}{f:FuncId}{cap:JT}{xs:List JT}(hf:pd P f cap xs){ps:List Nat}{b:Nat}{x y:C}{Q:Ex->Nx}{ts:JT}{h:JN}(hps: ∀a∈xs,a.length=ps.length)
  (S:Nat->JN->Prop) (E:Ex->JN->Prop) (hS: ∀i hh,S i hh->LowI h hh) (hE: ∀s hh,E s hh->LowI h hh)
  (start:S 0 h) (hts: ∀c∈ts,qR (h.length+1) c=true)
  (body: ∀i hh tl L TS,(hi:i<xs.length)->S i hh->hh.length=h.length-> ∀(K:Nx) (K2:Ex->Nx),
   (∀t2 X hm,X=hm++ .lp .ready TS L::tl->hm.length=h.length->qV P b y K2 t2 (hm++ .lp .busy TS L::tl)->K t2 X)->
   (∀t3 X hh',X=hh'++ .lp .busy TS L::tl->hh'.length=h.length->S (i+1) hh'->K2 .normal t3 X)->
   (∀t3 X hh',X=hh'++ .lp .busy TS L::tl->hh'.length=h.length->E .ret hh'->K2 .ret t3 X)->
   (∀id t3 X hh',X=hh'++ .lp .busy TS L::tl->hh'.length=h.length->E (.exit id) hh'->K2 (.exit id) t3 X)->
   qV P b x (Ex.andThen K (λ_ _ _=>False)) (ke ts ps (xs[i])) (hh++ .lp .ready TS L::tl))
  (done: ∀hh,S xs.length hh->Q .normal ts hh) (doneE: ∀e hh,E e hh->match e with
   | .normal=>False
   |e=>Q e ts hh):
  fe P (.fn (.func f) [] cap) ps (qV P b x) (qV P b y) Q ts h:=by
 intro L hy;show z7 _ _ _ _ _;have key:=hf h ts L S (λs hh=>match s with
  | .ret=>E .ret hh
  | .exit id=>E (.exit id) hh
  |_=>False) hS
  (by
   intro s hh hs;cases s with
   |ret=>exact hE _ _ hs
   |exit id=>exact hE _ _ hs
   |ready=>exact hs.elim
   |busy=>exact hs.elim)
  (by
   intro i hh tl hi i4;have hlen:=(hS _ _ i4).1;refine hy h.length ts _ _ _ (ko hlen) (hps _ (List.getElem_mem hi)) ?_;refine wa (Q:=Ex.andThen (λt2 h2=> ∃hm,hm.length=h.length∧h2=hm++ .lp .ready ts L::tl∧
    qV P b y (λe t3 h3=> ∃hh',h3=hh'++ .lp .busy ts L::tl∧hh'.length=h.length∧match e with
     | .normal=>S (i+1) hh'
     | .ret=>E .ret hh'
     | .exit id=>E (.exit id) hh') t2 (hm++ .lp .busy ts L::tl)) (λ_ _ _=>False)) ?_
    (body i hh tl L ts hi i4 hlen _ _ (λt2 X hm e1 e2 e3=>⟨hm,e2,e1,e3⟩) (λt3 X hh' e1 e2 e3=>⟨hh',e1,e2,e3⟩) (λt3 X hh' e1 e2 e3=>⟨hh',e1,e2,e3⟩) (λid t3 X hh' e1 e2 e3=>⟨hh',e1,e2,e3⟩))
   intro e t2 h2 hq;cases e with
   |ret=>exact hq.elim
   |exit id=>exact hq.elim
   |normal=>
    obtain⟨hm,hml,rfl,h3⟩:=hq;refine⟨rfl,⟨ts,ko hml⟩,λts' hts'=> ?_⟩;rw[ko hml]at hts';cases hts';rw[yh hml];refine wa ?_ h3;rintro e t3 h3' ⟨hh',rfl,g1,g2⟩;refine⟨ts,ko g1,?_⟩;cases e with
    |normal=>exact⟨hh',.inl ⟨rfl,g2,yh g1⟩⟩
    |ret=>exact⟨hh',.inr ⟨.ret,rfl,g2,yh g1⟩⟩
    |exit id=>exact⟨hh',.inr ⟨.exit id,rfl,g2,yh g1⟩⟩)
  start hts
 refine key.le (wO.refl _) ?_;rintro v h' ⟨hh,⟨g1,rfl⟩|⟨s,g1,rfl⟩⟩
 ·have hl:=hS _ _ g1;exact⟨v,qi,hh,.ready,ts,L,rfl,hl.1,λo ho=>(hl.2 o ho).imp (λh=>h) And.left,done hh g1⟩
 ·cases s with
  |ready=>exact g1.elim
  |busy=>exact g1.elim
  |ret=>
   have hl:=hE _ _ g1;exact⟨v,qi,hh,.ret,ts,L,rfl,hl.1,λo ho=>(hl.2 o ho).imp (λh=>h) And.left,doneE _ _ g1⟩
  |exit id=>
   have hl:=hE _ _ g1;exact⟨v,qi,hh,.exit id,ts,L,rfl,hl.1,λo ho=>(hl.2 o ho).imp (λh=>h) And.left,doneE _ _ g1⟩
end AF
namespace RC
theorem lF(n:Nat)(L:List Str):qR n (strs L)=true:=rfl
end RC
end
section
open Go Go.Proofs AF HY LN
namespace AF
theorem Wk.ownNil{t:JT}{h:JN}{j v i k ve sz:Nat}{ty:TypeId}{cs:JT}(hj:qu j h=some (.mem v ty cs))(hi:cs[i]? =some .nl)(hk:qu k h=some (.emp ve)):
  Wk t h t (qt j h (.mem v ty (cs.set i (.osl k ve sz 0 0)))):=by
 intro N w σ a H;have hjl:j<σ.length:=by rw[H.hr.len];exact zh hj
 have hkl:k<σ.length:=by rw[H.hr.len];exact zh hk
 have ho:=zg hjl;have hok:=zg hkl;obtain⟨e1,e2⟩:=H.hr.obj k _ _ hk hok;obtain⟨m1,m2,b,arr,m3,m4,m5,m6,m7,m8⟩:=H.hr.obj j _ _ hj ho;have q:=H.hr.recell (cs':=cs.set i (.osl k ve sz 0 0)) hj ho m3 m4 m5 (by simpa using m6) (λn x hn hx=>m7 n x (by simpa using hn) hx) (λn c x hn hx=>by
  rw[List.getElem?_set]at hn;split at hn
  ·rename_i e;subst e;split at hn
   ·cases hn;have hv:=m8 i _ x hi hx;cases hv with
    |imm hv=>
     cases hv;exact .osl _ hok ⟨none,0,0,rfl⟩ (Nat.le_of_eq e1.symm) (λ_=> .inl ⟨e2,rfl,rfl,rfl⟩)
   ·cases hn
  ·exact m8 n c x hn hx)
 exact⟨σ,⟨q,H.sz,H.tm,H.df⟩,Ext.refl _ _⟩
end AF
namespace RC
structure R7 (t:List Str) (L:List En):Prop where
 rg: ∀i,i<L.length->0<=(L.getD i default).frm∧(L.getD i default).frm<=(L.getD i default).to∧(L.getD i default).to<=t.length
 nx: ∀i,i+1<L.length->(L.getD i default).to<=(L.getD (i+1) default).frm
theorem AX{names:List Str}{gs:List Gr}{l:List En}{src:Int}{e:En}(h:e∈ofE names gs l src):e∈l:=(fy l).subset (List.mem_filter.1 h).1
theorem tD{L:List En}{i:Nat}(hi:i<L.length):L.getD i default∈L:=by
 rw[gdqA,zg hi];exact List.getElem_mem hi
theorem Db.tx{names:List Str}{gs:List Gr}{t:List Str}{l:List En}(h:Db names gs t l){s:Nat}(hs:s<names.length):R7 t (ofE names gs l (s:Int)):=
 ⟨λi hi=>(sb.1 (h.ck _ (AX (tD hi)))).rng,λi hi=>Jp (wu h.cl hs) hi⟩
end RC
end
section
open Go Go.Proofs AF HY LN
namespace RC
def B9(L:List (List Str)):AV:= .sl L.length λi=> [strs (L.getD i [])]
theorem nf(L:List (List Str)):(B9 L).flag=true:=rfl
theorem iy(L:List (List Str)):(B9 L).strip=B9 L:=rfl
attribute [go_sem] nf iy
theorem kW(L:List Str):(jO L).length=L.length:=by simp[jO]
theorem mb(L M:List Str):jO (L++M)=jO L++jO M:=by simp[jO]
theorem Wa{L:List Str}:jO L= []↔L= []:=by simp[jO]
theorem Wb{L:List Str}{n:Nat}(g:AV->AV)(hg: ∀s,g (.str s)= .str s)(hn:n=L.length):VLe (.sl n λi=>(((jO L).drop i).take 1).map g) (strs L):=by
 subst hn;refine VLe.sl_eq rfl (λi hi=> ?_);unfold jO;rw[<-List.map_drop,List.drop_eq_getElem_cons hi,List.map_cons,List.take_succ_cons,List.take_zero,List.map_cons,List.map_nil,hg,gdqA,zg hi];rfl
theorem JW{α β:Type}(f:α->β)(L:List α):L.flatMap (λi=> [f i])=L.map f:=by
 induction L with
 |nil=>rfl
 |cons a L ih=>rw[List.flatMap_cons,ih];rfl
theorem QL(h:JN){t:List Str}{a b:Nat}(h1:a<=b)(h2:b<=t.length):qk h (.sl (b-a) λi=> [.str (t.getD (a+i) [])])=some (b-a,jO (ZJ t a b)):=by
 show some (b-a,(List.range (b-a)).flatMap λi=> [AV.str (t.getD (a+i) [])])=_;rw[JW (λi=>AV.str (t.getD (a+i) []))];congr 2;unfold jO ZJ;apply List.ext_getElem
 ·simp;omega
 ·intro i g1 g2;have hi:i<b-a:=by simpa using g1
  have hl:a+i<t.length:=by omega
  simp[gdqA,hl]
theorem V8(h:JN)(t:List Str):qk h (strs t)=some (t.length,jO t):=by
 have:=QL h (t:=t) (a:=0) (b:=t.length) (nzl _) (nlr _)
 simp only[Nat.sub_zero,Nat.zero_add]at this;have e:ZJ t 0 t.length=t:=by simp[ZJ]
 rw[e]at this;exact this
def gwB(ws:List Str)(n:Nat):Bool:=jm (λi=>decide (20<(ws.getD i []).length)) ws.length||decide (n<ws.length)
theorem wQ{p:Nat->Bool}{i:Nat}(h: ∀j,j<i->p j=false)(hp:p i=false): ∀j,j<i+1->p j=false:=by
 intro j hj
 by_cases e:j=i
 ·subst e;exact hp
 ·exact h j oma
theorem Ik{ws:List Str}{n:Nat}(h:gwB ws n=false):ws.length<=n∧ ∀i,(ws.getD i []).length<=20:=by
 unfold gwB at h;rw[Bool.or_eq_false_iff,decide_eq_false_iff_not,qq]at h;refine⟨oma,λi=> ?_⟩
 by_cases hi:i<ws.length
 ·have:=of_decide_eq_false (h.1 i hi)
  omega
 ·rw[gdqA,List.getElem?_eq_none oma];exact nzl _
end RC
end
section
open Go Go.Proofs AF
end
section
open Go Go.Proofs AF HY LN
namespace AF
theorem kl{P:Program}{f:FuncId}{first cap args:JT}{d:Option Nat}{nx:Nx}{t:JT}{h h':JN}{r:AV}(hc:ACalls P f (first++args++cap) h r h')(hn:nx (qS t d r) h'):wU P (.fn (.func f) first cap::args) d nx t h:=⟨_,hc.toQ,by rintro _ _ ⟨rfl,rfl⟩;exact hn⟩
theorem jd{v:Nat}{ty:TypeId}{cs:JT}{n:Nat}(h: ∀c∈cs,qR n c=true):lowO n (ze v ty cs):=by
 unfold ze;split
 ·trivial
 ·exact h
theorem qX{v w:Nat}{ty:TypeId}{cs:JT}:qH (some (ze v ty cs)) w=(v==w):=by unfold ze;split<;>rfl
theorem nK{v:Nat}{ty:TypeId}{cs:JT}:(qv (some (ze v ty cs)) v).getD []=cs:=by
 unfold ze;split
 ·rename_i e;rw[e];rfl
 ·rw[ql,ipo rfl];rfl
end AF
namespace RC
theorem nY(L:List Str):(strs L).solid=true:=rfl
theorem mM(L:List Str):(strs L).cells= [strs L]:=rfl
theorem fS{k v z p n:Nat}(L:List Str):xY (.osl k v z p n) (strs L)=true:=rfl
attribute [go_sem] nY mM fS
theorem mc(L:List Str)(n:Nat): ∀c∈jO L,qR n c=true:=by
 intro c hc;unfold jO at hc;obtain⟨x,_,rfl⟩:=List.mem_map.1 hc;rfl
theorem xn{v:Nat}{L:List Str}{g:AV->AV}{n:Nat}(hg: ∀s,g (.str s)= .str s)(hn:n=L.length):VLe (fP (some (ze v 9 (jO L))) v 1 0 n g) (strs L):=by
 subst hn
 by_cases h:L= []
 ·subst h;show VLe (fP (some (.emp v)) v 1 0 0 g) _;rw[slOf_emp,ipo rfl];exact qU
 ·have e0:ze v 9 (jO L)= .mem v 9 (jO L):=vB (λe=>h (Wa.1 e));rw[e0,slOf_mem,ipo ⟨rfl,by rw[kW];omega⟩];simp only[Nat.zero_add,Nat.mul_one];exact Wb g hg rfl
end RC
end
section
open Go Go.Proofs AF
end
section
open Go Go.Proofs AF HY LN
namespace AF
theorem Wk.fzCell{t:JT}{h:JN}{j k i v:Nat}{ty:TypeId}{cs:JT}{c c':AV}(hj:qu j h=some (.mem v ty cs))(hi:cs[i]? =some c)(hs:qG h k=true)(hne:j≠k)(hc:VLe (frz (λb=> [k].contains b) h 8 c) c'):
  Wk t h t (qt j (qt k h (.emp (qo (qu k h)+1))) (.mem v ty (cs.set i c'))):=by
 intro N w σ a H;have hs':ky [k] h=true:=by simp[ky,hs]
 obtain⟨σ',g1,g2,g3,g4⟩:=xb [k] H.hr hs';have hn:j∉ [k]:=by simp[hne]
 have frzv: ∀c x,VR w σ c x->VR w σ' (frz (λb=> [k].contains b) h 8 c) x:=λc x hx=>
  dV H.hr (λb hb=>(g4 b hb).elim λj ⟨o,h1,h2,h3⟩=>⟨j,o,by simpa using h1,h2,h3⟩) (λj o hj ho=>g3 j o (by simpa using hj) ho) 8 hx
 have hjl:j<σ.length:=by rw[H.hr.len];exact zh hj
 have ho:=zg hjl;obtain⟨m1,m2,b,arr,m3,m4,m5,m6,m7,m8⟩:=H.hr.obj j _ _ hj ho;have q:=g1.recell (cs':=cs.set i c') ((b7 hn).trans hj) (g3 j _ hn ho) m3 m4 m5 (by simpa using m6) (λn x hn hx=>m7 n x (by simpa using hn) hx) (λn d x hd hx=>by
  rw[List.getElem?_set]at hd;split at hd
  ·rename_i e;subst e;split at hd
   ·cases hd;exact hc _ _ _ (frzv _ x (m8 i _ x hi hx))
   ·cases hd
  ·exact (m8 n d x hd hx).ext g2)
 exact⟨σ',⟨q,H.sz,λn d x hd hx=>(H.tm n d x hd hx).ext g2,vQ g2 H.df⟩,g2⟩
theorem Kq{h:JN}{k ve sz off n:Nat}:frz (λb=> [k].contains b) h 8 (.osl k ve sz off n)=fP (qu k h) ve sz off n (rei (λb=> [k].contains b) h 7):=by
 rw[frz_osl,ipo (by simp),rei_osl,ipo (by simp)]
end AF
namespace RC
theorem nW(L:List Gr):(ZG L).solid=true:=rfl
theorem mK(L:List Gr):(ZG L).cells= [ZG L]:=rfl
theorem nV(L:List En):(ZF L).solid=true:=rfl
theorem mJ(L:List En):(ZF L).cells= [ZF L]:=rfl
theorem QC(names:List Str)(gs:List Gr)(e:En):(stV names gs e).solid=true:=rfl
theorem rX(names:List Str)(gs:List Gr)(e:En):(stV names gs e).cells= [stV names gs e]:=rfl
theorem QA(names:List Str)(gs:List Gr)(L:List En):(msV names gs L).solid=true:=rfl
theorem rV(names:List Str)(gs:List Gr)(L:List En):(msV names gs L).cells= [msV names gs L]:=rfl
theorem ib(L:List Int):(qx L).solid=true:=rfl
theorem f8(L:List Int):(qx L).cells= [qx L]:=rfl
attribute [go_sem] nW mK nV mJ QC rX QA rV ib f8
end RC
end
section
open Go Go.Proofs AF HY LN
namespace RC
section
variable (names : List Str) (gs : List Gr) (t : List Str) (l : List En) (src : Int) (h : JN)
theorem lX{v n:Nat}{L:List Int}{g:AV->AV}(hg: ∀s,g (.int .i64 s)= .int .i64 s)(hn:n=L.length):VLe (fP (some (ze v 3 (qM L))) v 1 0 n g) (qx L):=by
 subst hn
 by_cases h:L= []
 ·subst h;show VLe (fP (some (.emp v)) v 1 0 0 g) _;rw[slOf_emp,ipo rfl];exact qU
 ·have e0:ze v 3 (qM L)= .mem v 3 (qM L):=vB (λe=>h (tQ.1 e));rw[e0,slOf_mem,ipo ⟨rfl,by rw[jg];omega⟩];simp only[Nat.zero_add,Nat.mul_one];exact eJ g hg rfl
end
section
variable (names : List Str) (gs : List Gr) (t : List Str) (l : List En) (src : Int) (h : JN)
end
theorem eqS(a:List Str)(h:JN)(hn:a.length<=1000000000):ACalls Tryz.prog 18 [strs a,strs a] h (.bool true) h:=by
 have c:=Na GF a.length a.length (λj=> .s (a.getD j [])) (λj=> .s (a.getD j [])) h (λ_ _ _=>rfl) oma oma;rw[dqt ⟨rfl,λ_ _=>rfl⟩]at c;exact c
theorem eqI(a:List Int)(h:JN)(hn:a.length<=1000000000):ACalls Tryz.prog 30 [qx a,qx a] h (.bool true) h:=by
 have c:=Na Hm a.length a.length (λj=> .i (a.getD j 0)) (λj=> .i (a.getD j 0)) h (λ_ _ _=>rfl) oma oma;rw[dqt ⟨rfl,λ_ _=>rfl⟩]at c;exact c
theorem SL{L:List Str}{X:AV}{h:JN}(hv:wO ([strs L,X].map (rei (λ_=>true) h 8)) [strs L,strs L])(hn:L.length<=1000000000):ACalls Tryz.prog 18 [strs L,X] h (.bool true) h:=
 ACalls.borrow ((eqS L [] hn).le hv (qi)) rfl
theorem Rz{L:List Int}{X:AV}{h:JN}(hv:wO ([qx L,X].map (rei (λ_=>true) h 8)) [qx L,qx L])(hn:L.length<=1000000000):ACalls Tryz.prog 30 [qx L,X] h (.bool true) h:=
 ACalls.borrow ((eqI L [] hn).le hv (qi)) rfl
end RC
end
section
open Go Go.Proofs AF HY LN
namespace RC
end RC
namespace RC
end RC
end
section
open Go Go.Proofs AF HY LN
namespace AF
structure Df (E:AV) (n:Nat) (cs:JT):Prop where
 fl:E.flag=true
 st:E.strip=E
 vl: ∀g,valL g .len [E]= .int .i64 n
 ok: ∀g,okL g .len [E]=True
 sc: ∀g,qk g E=some (n,cs)
 ap: ∀k v z p m,xY (.osl k v z p m) E=true
theorem Df.sl(n:Nat)(f:Nat->JT):Df (.sl n f) n ((List.range n).flatMap f):=⟨rfl,rfl,λ_=>rfl,λ_=>eqt trivial,λ_=>rfl,λ_ _ _ _ _=>rfl⟩
end AF
namespace RC
theorem Df.strs(L:List Str):Df (strs L) L.length (jO L):=⟨rfl,rfl,λ_=>rfl,λ_=>eqt trivial,λg=>V8 g L,λ_ _ _ _ _=>rfl⟩
theorem Df.sub{t:List Str}{a b:Nat}(h1:a<=b)(h2:b<=t.length):Df (.sl (b-a) λi=> [.str (t.getD (a+i) [])]) (ZJ t a b).length (jO (ZJ t a b)):=by
 rw[Wm h1 h2];exact⟨rfl,rfl,λ_=>rfl,λ_=>eqt trivial,λg=>QL g h1 h2,λ_ _ _ _ _=>rfl⟩
end RC
end
section
open Go Go.Proofs AF HY LN
namespace RC
def oH(ms:List Nat):AV:= .sl ms.length λi=> [.int .u64 ((ms.getD i 0:Nat):Int)]
theorem ng(L:List Nat):(oH L).flag=true:=rfl
theorem iz(L:List Nat):(oH L).strip=oH L:=rfl
theorem ii(L:List Nat):(oH L).solid=true:=rfl
theorem gm(L:List Nat):(oH L).cells= [oH L]:=rfl
attribute [go_sem] ng iz ii gm
end RC
end
section
open Go Go.Proofs AF
end
section
open Go Go.Proofs AF HY LN
namespace RC
theorem tP(L:List Int)(n:Nat): ∀c∈qM L,qR n c=true:=by
 intro c hc;unfold qM at hc;obtain⟨x,_,rfl⟩:=List.mem_map.1 hc;rfl
structure fR (L:List Rd) (s:Nat):Prop where
 src: ∀r∈L,r.src.Pairwise (· < ·)∧ ∀x∈r.src,0<=x∧x<s
 ne: ∀i j,i<j->j<L.length->(L.getD i default).words≠(L.getD j default).words
theorem xK(L:List Rd)(w:List Str):(∃i,i<L.length∧(L.getD i default).words=w∧lM L w=i)∨((∀i,i<L.length->(L.getD i default).words≠w)∧lM L w<0):=by
 unfold lM;rcases zk (λj=>decide (w=(L.getD j default).words)) L.length with⟨i,h1,h2,_,h4⟩|⟨h1,h2⟩
 ·exact .inl ⟨i,h1,(of_decide_eq_true h2).symm,h4⟩
 ·exact .inr ⟨λi hi e=>of_decide_eq_false (h1 i hi) e.symm,oma⟩
theorem kn{L:List Rd}{i j:Nat}{r:Rd}(hi:i<L.length):(L.set i r).getD j default=if j=i then r else L.getD j default:=by
 rw[gdqA,List.getElem?_set]
 by_cases e:i=j
 ·subst e;rw[ipo rfl,ipo hi,ipo rfl];rfl
 ·rw[ine e,ine (λh=>e h.symm),gdqA]
theorem ZP{L:List Rd}{w:List Str}{s:Nat}(h:fR L s):fR (fK L w s) (s+1):=by
 have g: ∀i (hi:i<L.length),L.getD i default=L[i]:=λi hi=>by rw[gdqA,zg hi];rfl
 rcases xK L w with⟨i,h1,h2,h3⟩|⟨h1,h2⟩
 ·have e:fK L w s=L.set i ⟨w,(L.getD i default).src++ [(s:Int)]⟩:=by
   unfold fK;rw[h3,ine oma,itn]
  rw[e];have hm:=h.src (L.getD i default) (by rw[g i h1];exact List.getElem_mem h1);refine⟨λr hr=> ?_,λa b hab hb=> ?_⟩
  ·rcases List.mem_or_eq_of_mem_set hr with hr|rfl
   ·obtain⟨a,b⟩:=h.src r hr;exact⟨a,λx hx=>by have:=b x hx;omega⟩
   ·refine⟨List.pairwise_append.2 ⟨hm.1,List.pairwise_singleton _ _,λa ha b hb=> ?_⟩,λx hx=> ?_⟩
    ·rw[List.mem_singleton]at hb
     have:=hm.2 a ha
     omega
    ·rcases List.mem_append.1 hx with hx|hx
     ·have:=hm.2 x hx;omega
     ·rw[List.mem_singleton]at hx;omega
  ·rw[List.length_set]at hb;rw[kn h1,kn h1];have key: ∀j,j<L.length->j≠i->(L.getD j default).words≠w:=λj hj hne e=>by
    rw[<-h2]at e;rcases Nat.lt_or_gt_of_ne hne with hlt|hlt
    ·exact h.ne j i hlt h1 e
    ·exact h.ne i j hlt hj e.symm
   by_cases ea:a=i
   ·rw[ipo ea,ine oma];exact λe=>key b hb oma e.symm
   ·rw[ine ea]
    by_cases eb:b=i
    ·rw[ipo eb];exact key a oma ea
    ·rw[ine eb];exact h.ne a b hab hb
 ·have e:fK L w s=L++ [⟨w,[(s:Int)]⟩]:=by
   unfold fK;rw[ipo h2]
  rw[e];refine⟨λr hr=> ?_,λa b hab hb=> ?_⟩
  ·rcases List.mem_append.1 hr with hr|hr
   ·obtain⟨a,b⟩:=h.src r hr;exact⟨a,λx hx=>by have:=b x hx;omega⟩
   ·rw[List.mem_singleton]at hr;subst hr;exact⟨List.pairwise_singleton _ _,λx hx=>by rw[List.mem_singleton]at hx;omega⟩
  ·rw[lap,List.length_singleton]at hb;have ga: ∀j,j<L.length->(L++ [(⟨w,[(s:Int)]⟩:Rd)]).getD j default=L.getD j default:=λj hj=>by
    rw[gdqA,List.getElem?_append_left hj,gdqA]
   rw[ga a oma]
   by_cases eb:b<L.length
   ·rw[ga b eb];exact h.ne a b hab eb
   ·have:b=L.length:=by omega
    subst this;have gb:(L++ [(⟨w,[(s:Int)]⟩:Rd)]).getD L.length default=⟨w,[(s:Int)]⟩:=by
     rw[gdqA,List.getElem?_append_right (nlr _),Nat.sub_self];rfl
    rw[gb];exact h1 a oma
theorem cq(x:Co)(f d:Nat): ∀s,fR (ye x f d s) s:=by
 intro s
 induction s with
 |zero=>exact⟨λr hr=>absurd hr List.not_mem_nil,λi j _ h=>absurd h (nnz j)⟩
 |succ s ih=>exact ZP ih
theorem yH(x:Co)(f t:Nat):fR (aF x f t) x.sig.length:=cq x f (t-f) x.sig.length
def owG(b:List Wd)(k:Int):Nat->List Str
 |0=> []
 |i+1=>owG b k i++if (b.getD i default).unit=k then [(b.getD i default).text] else []
structure pe (L:List Rd) (s:Nat) (W:Nat->List Str):Prop where
 has: ∀i,i<s-> ∃j,j<L.length∧(i:Int)∈(L.getD j default).src
 wd: ∀j,j<L.length-> ∀x∈(L.getD j default).src,(L.getD j default).words=W x.toNat
 nn: ∀j,j<L.length->(L.getD j default).src≠ []
theorem wY{L:List Rd}{r:Rd}{j:Nat}:(L++ [r]).getD j default=if j<L.length then L.getD j default else if j=L.length then r else default:=by
 rw[gdqA];split
 ·rename_i h;rw[List.getElem?_append_left h,gdqA]
 ·rename_i h;rw[List.getElem?_append_right oma];split
  ·rename_i e;subst e;rw[Nat.sub_self];rfl
  ·rw[List.getElem?_eq_none (by rw[List.length_singleton];omega)];rfl
theorem ZO{L:List Rd}{s:Nat}{W:Nat->List Str}(h:pe L s W):pe (fK L (W s) s) (s+1) W:=by
 rcases xK L (W s)with⟨k,h1,h2,h3⟩|⟨h1,h2⟩
 ·have e:fK L (W s) s=L.set k ⟨W s,(L.getD k default).src++ [(s:Int)]⟩:=by
   unfold fK;rw[h3,ine oma,itn]
  rw[e];refine⟨λi hi=> ?_,λj hj x hx=> ?_,λj hj=> ?_⟩
  ·by_cases ei:i=s
   ·subst ei;exact⟨k,by rw[List.length_set];exact h1,by rw[kn h1,ipo rfl];exact List.mem_append_right _ (List.mem_singleton.2 rfl)⟩
   ·obtain⟨j,hj,hx⟩:=h.has i oma;refine⟨j,by rw[List.length_set];exact hj,?_⟩;rw[kn h1];split
    ·rename_i e';subst e';exact List.mem_append_left _ hx
    ·exact hx
  ·rw[List.length_set]at hj;rw[kn h1]at hx ⊢;split at hx
   ·rename_i e';rw[ipo e'];rcases List.mem_append.1 hx with hx|hx
    ·rw[<-h2];exact h.wd k h1 x hx
    ·rw[List.mem_singleton]at hx;subst hx;rfl
   ·rename_i e';rw[ine e'];exact h.wd j hj x hx
  ·rw[List.length_set]at hj;rw[kn h1];split
   ·exact λe=>absurd (List.append_eq_nil_iff.1 e).2 (by simp)
   ·exact h.nn j hj
 ·have e:fK L (W s) s=L++ [⟨W s,[(s:Int)]⟩]:=by
   unfold fK;rw[ipo h2]
  rw[e];refine⟨λi hi=> ?_,λj hj x hx=> ?_,λj hj=> ?_⟩
  ·by_cases ei:i=s
   ·subst ei;exact⟨L.length,by rw[lap,List.length_singleton];omega,by rw[wY,ine oma,ipo rfl];exact List.mem_singleton.2 rfl⟩
   ·obtain⟨j,hj,hx⟩:=h.has i oma;exact⟨j,by rw[lap,List.length_singleton];omega,by rw[wY,ipo hj];exact hx⟩
  ·rw[lap,List.length_singleton]at hj;rw[wY]at hx ⊢;split at hx
   ·rename_i hl;rw[ipo hl];exact h.wd j hl x hx
   ·rename_i hl;rw[ine hl,ipo oma];rw[ipo oma]at hx;rw[List.mem_singleton]at hx;subst hx;rfl
  ·rw[lap,List.length_singleton]at hj;rw[wY];split
   ·rename_i hl;exact h.nn j hl
   ·rw[ipo oma];simp
theorem cp(x:Co)(f d:Nat): ∀s,pe (ye x f d s) s λi=>rdG x i f d:=by
 intro s
 induction s with
 |zero=>exact⟨λi h=>absurd h (nnz i),λj h=>absurd h (nnz j),λj h=>absurd h (nnz j)⟩
 |succ s ih=>exact ZO ih
theorem cn(x:Co)(f t:Nat):pe (aF x f t) x.sig.length λi=>rdG x i f (t-f):=cp x f (t-f) x.sig.length
def ff(L:List Rd)(s:Int):Int:=w8 (λj=>decide (s∈(L.getD j default).src)) L.length 0
theorem uX{L:List Rd}{n:Nat}{W:Nat->List Str}(h:pe L n W)(hi:fR L n){s:Nat}(hs:s<n): ∃j,ff L s=(j:Nat)∧j<L.length∧(s:Int)∈(L.getD j default).src∧(L.getD j default).words=W s∧ ∀k,k<L.length->((s:Int)∈(L.getD k default).src↔k=j):=by
 obtain⟨j,hj,hx⟩:=h.has s hs;have uniq: ∀k,k<L.length->((s:Int)∈(L.getD k default).src↔k=j):=λk hk=>by
  refine⟨λhm=> ?_,λe=>by subst e;exact hx⟩;have e1:=h.wd k hk _ hm;have e2:=h.wd j hj _ hx;rcases Nat.lt_trichotomy k j with hl|hl|hl
  ·exact absurd (e1.trans e2.symm) (hi.ne k j hl hj)
  ·exact hl
  ·exact absurd (e2.trans e1.symm) (hi.ne j k hl hk)
 refine⟨j,?_,hj,hx,?_,uniq⟩
 ·unfold ff;exact kQ hj (λk hk=>dqf λhm=>by have:=(uniq k oma).1 hm;omega) (dqt hx)
 ·have:=h.wd j hj _ hx
  rwa [itn]at this
def oG(b:List Wd):List Str:=b.map (·.text)
theorem Lt{t:Tk}(h:tkE t=0):txB t=true:=by
 unfold tkE at h;split at h
 ·cases h
 split at h
 ·cases h
 split at h
 ·cases h
 rename_i h3;simpa using h3
end RC
end
section
namespace Go.Proofs
open Go.Shelf
end Go.Proofs
end
section
open Go Go.Proofs Go.Sort AF HY LN
namespace RC
end RC
end
section
open Go Go.Proofs AF HY LN
namespace RC
theorem bP{a b:En}:yT a b=false↔a.to<=b.frm∧ ¬(a.frm=b.frm∧a.to=b.to):=by
 unfold yT;rw[Bool.or_eq_false_iff,decide_eq_false_iff_not,Bool.and_eq_false_iff,decide_eq_false_iff_not,decide_eq_false_iff_not];omega
theorem Po{L:List En}(hs:L.Pairwise λa b=>iR b a=false)(hr: ∀e∈L,e.frm<=e.to)(hc:vP L=false):L.Pairwise λa b=>yT a b=false:=by
 induction L with
 |nil=>exact List.Pairwise.nil
 |cons a r ih=>
  have h0:=QP hs hc;obtain⟨h1,h2⟩:=List.pairwise_cons.1 hs;have h3:=ih h2 (λe he=>hr e (List.mem_cons_of_mem _ he)) (aT hc);refine List.pairwise_cons.2 ⟨?_,h3⟩;cases r with
  |nil=>intro z hz;cases hz
  |cons b r=>
   have hab:yT a b=false:=by
    rw[vP,Bool.or_eq_false_iff]at hc;exact hc.1
   intro z hz;have g0:=wR.1 ((List.pairwise_cons.1 h0).1 z hz);rcases List.mem_cons.1 hz with rfl|hz'
   ·exact hab
   ·have g1:=bP.1 ((List.pairwise_cons.1 h3).1 z hz');have g2:=bP.1 hab;have g3:=hr b (by simp);rw[bP];omega
theorem iY: ∀ {L:List En},(L.Pairwise λa b=>yT a b=false)->vP L=false
 | [],_=>rfl
 | [_],_=>rfl
 |a::b::r,h=>by
  obtain⟨h1,h2⟩:=List.pairwise_cons.1 h;rw[vP,h1 b (by simp),iY h2];rfl
theorem nD(names:List Str)(gs:List Gr)(l:List En)(src:Int)(p:En->Bool):ofE names gs (l.filter p) src=(ofE names gs l src).filter p:=by
 have h:=dT iT iS p l [] List.Pairwise.nil;unfold ofE Dv;rw[List.filter_nil]at h;rw[<-h,List.filter_reverse,List.filter_reverse,List.filter_reverse,List.filter_filter,List.filter_filter];congr 2;funext x;exact Bool.and_comm _ _
theorem Pi{names:List Str}{gs:List Gr}{t:List Str}{l:List En}(h:Db names gs t l){s:Nat}(hs:s<names.length):(ofE names gs l (s:Int)).Pairwise λa b=>yT a b=false:=by
 refine Po (nE names gs l s) (λe he=> ?_) (wu h.cl hs);have h1:e∈Dv l:=(List.mem_filter.1 he).1;have h2:=sb.1 (h.ck e ((fy l).subset h1));exact h2.rng.2.1
theorem Db.filter{names:List Str}{gs:List Gr}{t:List Str}{l:List En}(h:Db names gs t l)(p:En->Bool):Db names gs t (l.filter p):=
 ⟨h.sg,Nat.le_trans (List.length_filter_le _ _) h.n,λe he=>h.ck e ((List.mem_filter.1 he).1),qq.2 λs hs=>by
  rw[nD]
  exact iY (List.Pairwise.filter _ (Pi h hs))⟩
def SU(names:List Str)(gs:List Gr)(p:Un)(v:Va):Bool:=decide (mU names gs v.sigla=0)&&jm (λj=>decide ((p.rds.getD j default).words=v.words)&&decide ((p.rds.getD j default).src=aw names gs v.sigla)) p.rds.length
def RU(p:Un)(w:List Str):Nat->List Int
 |0=> []
 |j+1=>if (p.rds.getD j default).words=w then (p.rds.getD j default).src else RU p w j
def okB(names:List Str)(gs:List Gr)(w:List Str)(p:Un)(e:En):Bool:=
 if jm (λj=> !SU names gs p (e.vars.getD j default)) e.vars.length=true then false else if e.pos=false then decide (e.sup.length=0) else
  decide (mU names gs e.sup=0)&&decide (aw names gs e.sup=RU p (ZJ w e.frm.toNat e.to.toNat) p.rds.length)
structure wt (x:Co) (l:List Un) (d:List Dc) (s:Nat):Prop where
 ca:coE x=0
 us:vr x l=true
 cv:cvA x l=true
 sl:s<x.sig.length
 dl:d.length<=256
 pl: ∀j,j<d.length->ai x l (d.getD j default)=0
 ln:(rwA x l d s).length<=1024
theorem bD{x:Co}{l:List Un}(h:vaE x l=0):coE x=0∧vr x l=true∧cvA x l=true:=by
 unfold vaE at h;split at h
 ·cases h
 rename_i h1;split at h
 ·cases h
 rename_i h2;have h2:rgB x l=true:=by simpa using h2
 unfold rgB at h2;rw[Bool.and_eq_true]at h2;exact⟨Classical.not_not.1 h1,h2.1,h2.2⟩
theorem wt.co{x:Co}{l:List Un}{d:List Dc}{s:Nat}(h:wt x l d s):CoOk x:=j6 h.ca
theorem ux{x:Co}(h:CoOk x){s k:Nat}(hs:s<x.sig.length)(hk:k<x.col.length)(hb:pcB x s k=true):tkE (pcT x s k).t=0∧((x.col.getD k []).getD s 0).toNat<(x.tok.getD s []).length:=by
 unfold pcB at hb;have hb:=of_decide_eq_true hb;rcases h.ce k hk s hs with e|⟨e1,e2⟩
 ·omega
 ·exact⟨h.te s (by rw[h.tn];exact hs) _ oma,oma⟩
theorem Q2{t:Tk}(h:tkE t=0):t.text≠ []∧t.text.length<=64:=by
 have h1:=Lt h;unfold txB at h1;split at h1
 ·rw[Bool.and_eq_true]at h1;have h2:=h1.1;unfold dX at h2;rw[List.any_eq_true]at h2;obtain⟨k,hk,e⟩:=h2;rw[of_decide_eq_true e];refine⟨List.cons_ne_nil _ _,?_⟩;have h3:((List.range 64).all λk=>decide ((91::(Lib.itoa ((k+1:Nat):Int)++ [93]):Str).length<=64))=true:=by decide+kernel
  exact of_decide_eq_true (List.all_eq_true.1 h3 k hk)
 ·split at h1
  ·rw[Bool.and_eq_true]at h1;have h2:=h1.1;unfold Dl at h2;rw[Bool.and_eq_true,decide_eq_true_iff]at h2;refine⟨λe=> ?_,oma⟩;rw[e]at h2;cases h2.1
  ·rw[Bool.and_eq_true]at h1;have h2:=h1.1;rw[w9]at h2;simp only[Bool.and_eq_true,decide_eq_true_eq]at h2;refine⟨λe=> ?_,oma⟩;rw[e]at h2;simp at h2
structure RwP (x:Co) (l:List Un) (d:List Dc) (s k:Nat) (r:Rw):Prop where
 u:r.u=k
 f:(frN l k:Int)<=r.p.c
 t:r.p.c<toN l k
 dr: -1<=r.d∧r.d<d.length
 tx:r.p.t.text≠ []∧r.p.t.text.length<=64
theorem AG{x:Co}{l:List Un}{d:List Dc}{s:Nat}(h:wt x l d s){k:Nat}(hl: ¬wl x l d k d.length<0):
  (wl x l d k d.length).toNat<d.length∧ai x l (d.getD (wl x l d k d.length).toNat default)=0∧vk x l (d.getD (wl x l d k d.length).toNat default)=k:=by
 have h1:=xd x l d k d.length;refine⟨oma,h.pl _ oma,tW (n:=d.length) oma⟩
theorem QJ{x:Co}(h:CoOk x){s f d:Nat}(hs:s<x.sig.length)(hd:f+d<=x.col.length){p:Pc}(hp:p∈spk x s f d):(f:Int)<=p.c∧p.c<((f+d:Nat):Int)∧p.t.text≠ []∧p.t.text.length<=64:=by
 obtain⟨k,h1,h2,h3,rfl⟩:=gN.1 hp;obtain⟨a1,_⟩:=ux h hs (show k<x.col.length by omega) h3;obtain⟨b1,b2⟩:=Q2 a1;exact⟨by show (f:Int)<=((k:Nat):Int);omega,by show ((k:Nat):Int)<_;omega,b1,b2⟩
theorem Bj{x:Co}{l:List Un}{d:List Dc}{s:Nat}(h:wt x l d s){k:Nat}(hk:k<l.length){o:Dc}(ho:ai x l o=0){p:Pc}(hp:p∈gV x l k o):(frN l k:Int)<=p.c∧p.c<toN l k∧p.t.text≠ []∧p.t.text.length<=64:=by
 obtain⟨a1,a2,a3,a4,_⟩:=jz h.us hk;obtain⟨b1,b2,b3,b4,b5,b6⟩:=xJ ho;obtain⟨c1,c2,_⟩:=mg b4;unfold gV at hp;split at hp
 ·obtain⟨e1,e2,e3⟩:=QJ h.co c2 (show frN l k+(toN l k-frN l k)<=x.col.length by omega) hp;exact⟨e1,oma,e3⟩
 ·split at hp
  ·rename_i g2;obtain⟨t,ht,rfl⟩:=List.mem_map.1 hp;obtain⟨u,hu,rfl,hu0⟩:=iE o.txt ht;obtain⟨_,e2,_⟩:=sd b6 g2;have e3:=Cd.1 e2 u hu0;refine⟨?_,?_,hu.ne,e3⟩
   ·show (frN l k:Int)<=(l.getD k default).frm;omega
   ·show (l.getD k default).frm<toN l k;omega
  ·cases hp
theorem lW{x:Co}{l:List Un}{d:List Dc}{s:Nat}(h:wt x l d s){k:Nat}(hk:k<l.length){r:Rw}(hr:r∈rwU x l d s k):RwP x l d s k r:=by
 obtain⟨a1,a2,a3,a4,_⟩:=jz h.us hk;have hg:=xd x l d k d.length;unfold rwU at hr;split at hr
 ·obtain⟨g1,g2,g3⟩:=jh.1 hr;obtain⟨e1,e2,e3⟩:=QJ h.co h.sl (show frN l k+(toN l k-frN l k)<=x.col.length by omega) g1;exact⟨g2,e1,oma,oma,e3⟩
 ·rename_i hl;obtain⟨g1,g2,g3⟩:=jh.1 hr;obtain⟨c1,c2,_⟩:=AG h hl;obtain⟨e1,e2,e3⟩:=Bj h hk c2 g1;exact⟨g2,e1,e2,oma,e3⟩
theorem bA{x:Co}{l:List Un}{d:List Dc}{s:Nat}(h:wt x l d s){f t:Nat}(ht:t<=x.col.length){r:Rw}(hr:r∈rwC x s f t):r.u= -1∧r.d= -1∧(f:Int)<=r.p.c∧r.p.c<t∧r.p.t.text≠ []∧r.p.t.text.length<=64:=by
 unfold rwC at hr;obtain⟨g1,g2,g3⟩:=jh.1 hr
 by_cases hft:f<=t
 ·obtain⟨e1,e2,e3⟩:=QJ h.co h.sl (show f+(t-f)<=x.col.length by omega) g1;exact⟨g2,g3,e1,oma,e3⟩
 ·rw[show t-f=0 by omega]at g1;cases g1
structure RwG (x:Co) (l:List Un) (d:List Dc) (r:Rw):Prop where
 c:0<=r.p.c∧r.p.c<x.col.length
 u:fnU l r.p.c=r.u
 d: -1<=r.d∧r.d<d.length
 n:r.u<0->r.u= -1∧r.d= -1
 tx:r.p.t.text≠ []∧r.p.t.text.length<=64
theorem I5{x:Co}{l:List Un}{d:List Dc}{s k:Nat}(h:wt x l d s)(hk:k<l.length){r:Rw}(hr:RwP x l d s k r):RwG x l d r:=by
 obtain⟨a1,a2,a3,a4,_⟩:=jz h.us hk;have h1:=hr.f;have h2:=hr.t;have h3:=hr.u;refine⟨oma,?_,hr.dr,λhn=>by omega,hr.tx⟩
 have:=J6 h.us hk (c:=r.p.c.toNat) oma oma
 rw[show ((r.p.c.toNat:Nat):Int)=r.p.c by omega]at this;rw[this,h3]
theorem I3{x:Co}{l:List Un}{d:List Dc}{s:Nat}(h:wt x l d s){k t:Nat}(hk:k<=l.length)(ht:t<=x.col.length)(hf:k<l.length->t<=frN l k){r:Rw}(hr:r∈rwC x s (zf l k) t):RwG x l d r:=by
 obtain⟨g1,g2,g3,g4,g5⟩:=bA h ht hr;refine⟨oma,?_,oma,λ_=>⟨g1,g2⟩,g5⟩
 have:=tq h.us hk (c:=r.p.c.toNat) oma (λhk=>by have:=hf hk;omega)
 rw[show ((r.p.c.toNat:Nat):Int)=r.p.c by omega]at this;rw[this,g1]
theorem Qo{x:Co}{l:List Un}{d:List Dc}{s:Nat}(h:wt x l d s): ∀k,k<=l.length->(∀r∈rwL x l d s k,RwG x l d r∧r.p.c<zf l k∧r.u<k)∧(rwL x l d s k).Pairwise λa b=>a.p.c<=b.p.c:=by
 intro k
 induction k with
 |zero=>intro _;exact⟨λr hr=>(by cases hr),List.Pairwise.nil⟩
 |succ k ih=>
  intro hk;obtain⟨i1,i2⟩:=ih oma;obtain⟨a1,a2,a3,a4,_⟩:=jz h.us (show k<l.length by omega);have hp:=aj h.us (show k<l.length by omega);have c1:=λr (hr:r∈rwC x s (zf l k) (frN l k))=>bA h (show frN l k<=x.col.length by omega) hr
  have u1:=λr (hr:r∈rwU x l d s k)=>lW h (show k<l.length by omega) hr
  have mem: ∀r∈rwL x l d s (k+1),r∈rwL x l d s k∨r∈rwC x s (zf l k) (frN l k)∨r∈rwU x l d s k:=λr hr=>by
   rcases List.mem_append.1 (show r∈rwL x l d s k++_ from hr)with hr|hr
   ·exact .inl hr
   ·exact .inr (List.mem_append.1 hr)
  refine⟨λr hr=> ?_,?_⟩
  ·rw[xj];rcases mem r hr with hr|hr|hr
   ·obtain⟨g1,g2,g3⟩:=i1 r hr;exact⟨g1,oma,oma⟩
   ·obtain⟨g1,g2,g3,g4,g5⟩:=c1 r hr;exact⟨I3 h (show k<=l.length by omega) oma (λ_=>nlr _) hr,oma,oma⟩
   ·have g:=u1 r hr
    have:=g.t
    have:=g.u
    exact⟨I5 h oma g,oma,oma⟩
  ·show (rwL x l d s k++(rwC x s (zf l k) (frN l k)++rwU x l d s k)).Pairwise _;rw[List.pairwise_append];refine⟨i2,?_,λa ha b hb=> ?_⟩
   ·rw[List.pairwise_append];refine⟨?_,?_,λa ha b hb=> ?_⟩
    ·unfold rwC rwM;rw[List.pairwise_map];exact spk_pw x s (zf l k) _
    ·unfold rwU;split
     ·unfold rwM;rw[List.pairwise_map];exact spk_pw x s _ _
     ·unfold rwM;rw[List.pairwise_map];unfold gV;split
      ·exact spk_pw x _ _ _
      ·split
       ·rw[List.pairwise_map];exact List.pairwise_of_forall λ_ _=>Int.le_refl _
       ·exact List.Pairwise.nil
    ·have:=(c1 a ha).2.2.2.1
     have:=(u1 b hb).f
     omega
   ·have h1:=(i1 a ha).2.1;rcases List.mem_append.1 hb with hb|hb
    ·have:=(c1 b hb).2.2.1;omega
    ·have:=(u1 b hb).f;omega
where
 spk_pw (x:Co) (s f:Nat): ∀d,(spk x s f d).Pairwise λa b=>a.c<=b.c:=by
  intro d
  induction d with
  |zero=>exact List.Pairwise.nil
  |succ d ih=>
   unfold spk;rw[List.pairwise_append];refine⟨ih,?_,λa ha b hb=> ?_⟩
   ·split
    ·exact List.pairwise_singleton _ _
    ·exact List.Pairwise.nil
   ·obtain⟨k,h1,h2,_,rfl⟩:=gN.1 ha;split at hb
    ·rw[List.mem_singleton]at hb;subst hb;show ((k:Nat):Int)<=((f+d:Nat):Int);omega
    ·cases hb
theorem Qi{x:Co}{l:List Un}{d:List Dc}{s:Nat}(h:wt x l d s):(∀r∈rwA x l d s,RwG x l d r)∧(rwA x l d s).Pairwise λa b=>a.p.c<=b.p.c:=by
 obtain⟨i1,i2⟩:=Qo h l.length (nlr _);refine⟨λr hr=> ?_,?_⟩
 ·rcases List.mem_append.1 (show r∈rwL x l d s l.length++_ from hr)with hr|hr
  ·exact (i1 r hr).1
  ·exact I3 h (nlr _) (nlr _) (λh=>absurd h (Nat.lt_irrefl _)) hr
 ·show (rwL x l d s l.length++_).Pairwise _;rw[List.pairwise_append];refine⟨i2,?_,λa ha b hb=> ?_⟩
  ·unfold rwC rwM;rw[List.pairwise_map];exact Qo.spk_pw x s _ _
  ·have h1:=(i1 a ha).2.1;have h2:=(bA h (nlr _) hb).2.2.1;omega
def txG(p:Int->Bool)(b:List Wd):Nat->List Str
 |0=> []
 |i+1=>txG p b i++if p (b.getD i default).unit=true then [(b.getD i default).text] else []
theorem CB(b:List Wd)(k:Int): ∀n,owG b k n=txG (λu=>decide (u=k)) b n:=by
 intro n
 induction n with
 |zero=>rfl
 |succ n ih=>
  unfold owG txG;rw[ih];congr 1
  by_cases g:(b.getD n default).unit=k
  ·rw[ipo g,ipo (dqt g)]
  ·rw[ine g,ine (by rw[dqf g];simp)]
def rwT(r:Rw):Str:=r.p.t.text
theorem LF(p:Int->Bool)(L:List Rw): ∀n,n<=L.length->txG p (bsW L) n=((L.take n).filter λr=>p r.u).map rwT:=by
 intro n
 induction n with
 |zero=>intro _;rfl
 |succ n ih=>
  intro hn;unfold txG;rw[ih oma,List.take_add_one,zg hn,Option.toList_some,List.filter_append,List.map_append,ww hn];congr 1;have e:L.getD n default=L[n]:=by rw[gdqA,zg hn];rfl
  rw[e];show (if p L[n].u=true then [L[n].p.t.text] else [])=_;cases g:p L[n].u with
  |true=>rw[ipo rfl,List.filter_cons_of_pos (by rw[g])];rfl
  |false=>rw[ine (by simp),List.filter_cons_of_neg (by rw[g];simp)];rfl
theorem Cm(p:Int->Bool)(L:List Rw):txG p (bsW L) (bsW L).length=(L.filter λr=>p r.u).map rwT:=by
 rw[jU,LF p L _ (nlr _),List.take_length]
theorem yX{L:List Rw}{p:Rw->Bool}(h: ∀r∈L,p r=false):L.filter p= []:=List.filter_eq_nil_iff.2 λr hr=>by rw[h r hr];simp
theorem JJ{L:List Rw}{p:Rw->Bool}(h: ∀r∈L,p r=true):L.filter p=L:=List.filter_eq_self.2 h
def rwZ(x:Co)(l:List Un)(d:List Dc)(s k:Nat):Nat->List Rw
 |0=> []
 |n+1=>rwZ x l d s k n++(rwC x s (zf l (k+n)) (frN l (k+n))++rwU x l d s (k+n))
theorem BN(x:Co)(l:List Un)(d:List Dc)(s k:Nat): ∀n,rwL x l d s (k+n)=rwL x l d s k++rwZ x l d s k n:=by
 intro n
 induction n with
 |zero=>rw[Nat.add_zero];unfold rwZ;rw[lan]
 |succ n ih=>
  show rwL x l d s (k+n)++(rwC x s (zf l (k+n)) (frN l (k+n))++rwU x l d s (k+n))=rwL x l d s k++(rwZ x l d s k n++(rwC x s (zf l (k+n)) (frN l (k+n))++rwU x l d s (k+n)));rw[ih,List.append_assoc]
def rwF(x:Co)(l:List Un)(d:List Dc)(s k:Nat):List Rw:=rwL x l d s k++rwC x s (zf l k) (frN l k)
def rwE(x:Co)(l:List Un)(d:List Dc)(s k:Nat):List Rw:=rwZ x l d s (k+1) (l.length-(k+1))++rwC x s (zf l l.length) x.col.length
theorem Qm(x:Co)(l:List Un)(d:List Dc)(s:Nat){k:Nat}(hk:k<l.length):rwA x l d s=rwF x l d s k++(rwU x l d s k++rwE x l d s k):=by
 unfold rwA;have e:l.length=(k+1)+(l.length-(k+1)):=by omega
 have e1:=BN x l d s (k+1) (l.length-(k+1));rw[<-e]at e1;rw[e1];show (rwL x l d s k++(rwC x s (zf l k) (frN l k)++rwU x l d s k))++_++_=_;unfold rwF rwE;simp only[List.append_assoc]
theorem Pz{x:Co}{l:List Un}{d:List Dc}{s:Nat}(h:wt x l d s){k:Nat}(hk:k<l.length){r:Rw}(hr:r∈rwF x l d s k):r.u<k:=by
 rcases List.mem_append.1 (show r∈rwL x l d s k++_ from hr)with hr|hr
 ·exact ((Qo h k oma).1 r hr).2.2
 ·have:=(bA h (show frN l k<=x.col.length by have:=jz h.us hk;omega) hr).1
  omega
theorem PD{x:Co}{l:List Un}{d:List Dc}{s:Nat}(h:wt x l d s){k:Nat}: ∀n,k+n<=l.length-> ∀r∈rwZ x l d s k n,r.u<0∨(k:Int)<=r.u:=by
 intro n
 induction n with
 |zero=>intro _ r hr;cases hr
 |succ n ih=>
  intro hn r hr;rcases List.mem_append.1 (show r∈rwZ x l d s k n++_ from hr)with hr|hr
  ·exact ih oma r hr
  ·rcases List.mem_append.1 hr with hr|hr
   ·have:=(bA h (show frN l (k+n)<=x.col.length by have:=jz h.us (show k+n<l.length by omega);omega) hr).1
    omega
   ·have:=(lW h (show k+n<l.length by omega) hr).u
    omega
theorem Py{x:Co}{l:List Un}{d:List Dc}{s:Nat}(h:wt x l d s){k:Nat}(hk:k<l.length){r:Rw}(hr:r∈rwE x l d s k):r.u<0∨(k:Int)<r.u:=by
 rcases List.mem_append.1 (show r∈rwZ x l d s (k+1) (l.length-(k+1))++_ from hr)with hr|hr
 ·have:=PD h (l.length-(k+1)) oma r hr
  omega
 ·have:=(bA h (nlr _) hr).1
  omega
theorem XD{x:Co}{l:List Un}{d:List Dc}{s:Nat}(h:wt x l d s){k:Nat}(hk:k<l.length):owG (bsW (rwA x l d s)) k (bsW (rwA x l d s)).length=(rwU x l d s k).map rwT:=by
 rw[CB,Cm,Qm x l d s hk,List.filter_append,List.filter_append];rw[yX (L:=rwF x l d s k) (λr hr=>dqf (by have:=Pz h hk hr;omega)),JJ (L:=rwU x l d s k) (λr hr=>dqt (lW h hk hr).u),
  yX (L:=rwE x l d s k) (λr hr=>dqf (by have:=Py h hk hr;omega)),lna,lan]
theorem yI(ps:List Pc)(u d:Int):(rwM ps u d).map rwT=ps.map λp=>p.t.text:=by unfold rwM;rw[List.map_map];rfl
theorem VT{x:Co}{l:List Un}{d:List Dc}{s k:Nat}:(rwU x l d s k).map rwT=
  if wl x l d k d.length<0 then rdG x s (frN l k) (toN l k-frN l k)
  else if (d.getD (wl x l d k d.length).toNat default).kind=1 then rdG x (zJ x (d.getD (wl x l d k d.length).toNat default).sig).toNat (frN l k) (toN l k-frN l k)
  else if (d.getD (wl x l d k d.length).toNat default).kind=2 then (dy (d.getD (wl x l d k d.length).toNat default).txt).map Tk.text else []:=by
 unfold rwU;split
 ·rw[yI,wm]
 ·rw[yI];unfold gV;split
  ·rw[wm]
  ·split
   ·rw[List.map_map];rfl
   ·rfl
theorem ia{x:Co}{l:List Un}{s:Nat}(h:vr x l=true): ∀k,k<=l.length->(rwL x l [] s k).map (λr=>r.p)=spk x s 0 (zf l k):=by
 intro k
 induction k with
 |zero=>intro _;rfl
 |succ k ih=>
  intro hk;show (rwL x l [] s k++(rwC x s (zf l k) (frN l k)++rwU x l [] s k)).map _=_;have hp:=aj h (show k<l.length by omega);obtain⟨_,_,a3,a4,_⟩:=jz h (show k<l.length by omega);rw[List.map_append,List.map_append,ih oma,xj];have e1:(rwC x s (zf l k) (frN l k)).map (λr=>r.p)=spk x s (zf l k) (frN l k-zf l k):=by unfold rwC;exact rwM_p _ _ _
  have e2:(rwU x l [] s k).map (λr=>r.p)=spk x s (frN l k) (toN l k-frN l k):=by
   unfold rwU;rw[ipo (by show (-1:Int)<0;omega)];exact rwM_p _ _ _
  rw[e1,e2];have g1:=spk_add x s 0 (zf l k) (frN l k-zf l k);have g2:=spk_add x s 0 (frN l k) (toN l k-frN l k);rw[Nat.zero_add]at g1 g2;rw[show zf l k+(frN l k-zf l k)=frN l k by omega]at g1;rw[show frN l k+(toN l k-frN l k)=toN l k by omega]at g2;rw[<-List.append_assoc,<-g1,<-g2]
where
 rwM_p (ps:List Pc) (u d:Int):(rwM ps u d).map (λr=>r.p)=ps:=by unfold rwM;rw[List.map_map];exact List.map_id _
 spk_add (x:Co) (s f d:Nat): ∀e,spk x s f (d+e)=spk x s f d++spk x s (f+d) e:=by
  intro e
  induction e with
  |zero=>rw[Nat.add_zero];show _=_++ [];rw[lan]
  |succ e ih=>
   show spk x s f (d+e)++(if pcB x s (f+(d+e))=true then [pcT x s (f+(d+e))] else [])=spk x s f d++(spk x s (f+d) e++if pcB x s (f+d+e)=true then [pcT x s (f+d+e)] else []);rw[ih,List.append_assoc,Nat.add_assoc]
theorem BM{x:Co}{l:List Un}{s:Nat}(h:vr x l=true):(rwA x l [] s).map (λr=>r.p)=spk x s 0 x.col.length:=by
 unfold rwA;have hp:=vX h (nlr l.length);rw[List.map_append,ia h _ (nlr _)];have e1:(rwC x s (zf l l.length) x.col.length).map (λr=>r.p)=spk x s (zf l l.length) (x.col.length-zf l l.length):=by unfold rwC;exact ia.rwM_p _ _ _
 have g1:=ia.spk_add x s 0 (zf l l.length) (x.col.length-zf l l.length);rw[Nat.zero_add,show zf l l.length+(x.col.length-zf l l.length)=x.col.length by omega]at g1;rw[e1,<-g1]
theorem B7{x:Co}(h:CoOk x){s:Nat}(hs:s<x.sig.length): ∀n,n<=x.col.length->(spk x s 0 n).map (λp=>p.t)=(x.tok.getD s []).take (cnC x.col s n):=by
 intro n
 induction n with
 |zero=>intro _;rfl
 |succ n ih=>
  intro hn;unfold spk cnC;rw[List.map_append,ih oma,Nat.zero_add];rcases h.ce n oma s hs with e|⟨e1,e2⟩
  ·have hp: ¬pcB x s n=true:=by unfold pcB;rw[e];decide
   rw[ine hp,ipo e,Nat.add_zero];exact lan _
  ·have hp:pcB x s n=true:=by unfold pcB;exact dqt oma
   have hn1: ¬(x.col.getD n []).getD s 0= -1:=by omega
   rw[ipo hp,ine hn1];have hlt:cnC x.col s n<(x.tok.getD s []).length:=by omega
   rw[List.take_add_one,zg hlt];show _++ [(pcT x s n).t]=_;unfold pcT;rw[e1,itn,gdqA (l:=x.tok.getD s []),zg hlt];rfl
theorem B5{x:Co}(h:CoOk x){s:Nat}(hs:s<x.sig.length):(spk x s 0 x.col.length).map (λp=>p.t)=x.tok.getD s []:=by
 rw[B7 h hs _ (nlr _),h.ct s hs,List.take_length]
theorem IR{x:Co}{l:List Un}(h:vr x l=true){k s:Nat}(hk:k<l.length)(hs:s<x.sig.length):
  ∃j,ff (l.getD k default).rds s=(j:Nat)∧j<(l.getD k default).rds.length∧((l.getD k default).rds.getD j default).words=rdG x s (frN l k) (toN l k-frN l k)∧lM (l.getD k default).rds (rdG x s (frN l k) (toN l k-frN l k))=(j:Nat):=by
 obtain⟨_,_,_,_,e⟩:=jz h hk;have hi:=yH x (frN l k) (toN l k);have hh:=cn x (frN l k) (toN l k);rw[e];obtain⟨j,h1,h2,h3,h4,h5⟩:=uX hh hi hs;refine⟨j,h1,h2,h4,?_⟩;unfold lM;refine kQ h2 (λi hij=>dqf λhw=>hi.ne i j hij h2 ?_) (dqt h4.symm);rw[<-hw,h4]
def dcK(x:Co)(l:List Un)(d:List Dc)(r:Rw):Int:=if r.u<0 then-1 else wl x l d r.u.toNat d.length
theorem XJ{x:Co}{l:List Un}{d:List Dc}{s k:Nat}{r:Rw}(hr:r∈rwU x l d s k):r.u=k∧r.d=wl x l d k d.length:=by
 have h1:=xd x l d k d.length;unfold rwU at hr;split at hr
 ·obtain⟨_,g2,g3⟩:=jh.1 hr;exact⟨g2,oma⟩
 ·obtain⟨_,g2,g3⟩:=jh.1 hr;exact⟨g2,g3⟩
theorem Ql{x:Co}{l:List Un}{d:List Dc}{s:Nat}{r:Rw}(hr:r∈rwA x l d s):(r.u= -1∧r.d= -1)∨ ∃k,k<l.length∧r∈rwU x l d s k:=by
 have hL: ∀k,k<=l.length->r∈rwL x l d s k->(r.u= -1∧r.d= -1)∨ ∃k,k<l.length∧r∈rwU x l d s k:=by
  intro k
  induction k with
  |zero=>intro _ hr;cases hr
  |succ k ih=>
   intro hk hr;rcases List.mem_append.1 (show r∈rwL x l d s k++_ from hr)with hr|hr
   ·exact ih oma hr
   ·rcases List.mem_append.1 hr with hr|hr
    ·exact .inl (jh.1 (show r∈rwM _ _ _ from hr)).2
    ·exact .inr ⟨k,oma,hr⟩
 rcases List.mem_append.1 (show r∈rwL x l d s l.length++_ from hr)with hr|hr
 ·exact hL _ (nlr _) hr
 ·exact .inl (jh.1 (show r∈rwM _ _ _ from hr)).2
theorem XI{x:Co}{l:List Un}{d:List Dc}{s:Nat}{r:Rw}(hr:r∈rwA x l d s):r.d=dcK x l d r:=by
 unfold dcK;rcases Ql hr with⟨h1,h2⟩|⟨k,_,hk⟩
 ·rw[ipo oma,h2]
 ·obtain⟨h1,h2⟩:=XJ hk;rw[ine oma,h1,itn,h2]
theorem Oa{x:Co}{l:List Un}{d:List Dc}{s:Nat}(h:wt x l d s){i:Nat}(hi:i<(rwA x l d s).length):oW x l (bsW (rwA x l d s)) i=0:=by
 obtain⟨g1,g2⟩:=Qi h;have hm:=zI (a:=default) hi;have g:=g1 _ hm;have hd:=XI hm;have hr:=xA l ((rwA x l d s).getD i default).p.c;have hu:=g.u;unfold oW;rw[ww hi];obtain⟨r,hrr⟩:=Qt ((rwA x l d s).getD i default)
 rw[<-hrr]at g hd hr hu;have bef: ∀hi0:i≠0,fL (bsW (rwA x l d s)) i=mkW (ZI (rwA x l d s) (i-1)) ((rwA x l d s).getD (i-1) default)∧((rwA x l d s).getD (i-1) default).p.c<=r.p.c∧(0<=r.u->r.u=((rwA x l d s).getD (i-1) default).u->r.d=((rwA x l d s).getD (i-1) default).d):=λhi0=>by
  refine⟨?_,?_,λh1 h2=> ?_⟩
  ·unfold fL;rw[ine hi0,ww oma]
  ·have:=List.pairwise_iff_getElem.1 g2 (i-1) i oma hi oma
   rw[hrr,gdqA,zg (show i-1<_ by omega),gdqA,zg hi];exact this
  ·have h3:=XI (zI (a:=default) (show i-1<(rwA x l d s).length by omega));rw[hd,h3];unfold dcK;rw[h2]
 rw[<-hrr];unfold wdE;show (if r.p.t.text= []∨64<r.p.t.text.length then (11:Int) else if r.p.c<0∨(x.col.length:Int)<=r.p.c∨(decide (i=0)=false∧r.p.c<(fL (bsW (rwA x l d s)) i).col) then 19 else
  if r.u< -1∨(l.length:Int)<=r.u then 20 else if fnU l r.p.c≠r.u then 20 else
  if r.d< -1∨(r.u<0∧r.d≠ -1)∨(decide (i=0)=false∧0<=r.u∧r.u=(fL (bsW (rwA x l d s)) i).unit∧r.d≠(fL (bsW (rwA x l d s)) i).dec) then 2 else 0)=0
 rw[ine (λhc=>hc.elim g.tx.1 (λhc=>by have:=g.tx.2;omega))];rw[ine]
 ·rw[ine oma,ine (λhc=>hc hu),ine];rintro (hc|⟨hc1,hc2⟩|⟨h0,h1,h2,h3⟩)
  ·have:=g.d.1;omega
  ·exact hc2 (g.n hc1).2
  ·have h0:i≠0:=of_decide_eq_false h0;obtain⟨b1,b2,b3⟩:=bef h0;rw[b1]at h2 h3;exact h3 (b3 h1 h2)
 ·rintro (hc|hc|⟨h0,h1⟩)
  ·have:=g.c.1;omega
  ·have:=g.c.2;omega
  ·have h0:i≠0:=of_decide_eq_false h0;obtain⟨b1,b2,b3⟩:=bef h0;rw[b1]at h1;have h1:r.p.c<((rwA x l d s).getD (i-1) default).p.c:=h1;omega
theorem Yv(L:List Rw)(c:Int): ∀n,n<=L.length->cW (bsW L) c n=((L.take n).filter λr=>decide (r.p.c=c)).length:=by
 intro n
 induction n with
 |zero=>intro _;rfl
 |succ n ih=>
  intro hn;unfold cW;rw[ih oma,List.take_add_one,zg hn,Option.toList_some,List.filter_append,lap,ww hn];congr 1;have e:L.getD n default=L[n]:=by rw[gdqA,zg hn];rfl
  rw[e];show (if L[n].p.c=c then 1 else 0)=_
  by_cases g:L[n].p.c=c
  ·rw[ipo g,List.filter_cons_of_pos (p:=λr:Rw=>decide (r.p.c=c)) (dqt g)];rfl
  ·rw[ine g,List.filter_cons_of_neg (p:=λr:Rw=>decide (r.p.c=c)) (by rw[dqf g];simp)];rfl
theorem VS{x:Co}{l:List Un}{d:List Dc}{s:Nat}(h:wt x l d s){c:Nat}(hc:c<x.col.length)(hf:fnU l (c:Int)<0): ∀n,n<=x.col.length->(rwS x l d s n).filter (λr=>decide (r.p.c=(c:Int)))=if c<n then [⟨pcT x s c,-1,-1⟩] else []:=by
 intro n
 induction n with
 |zero=>intro _;rfl
 |succ n ih=>
  intro hn;show (rwS x l d s n++rwc x l d s n).filter _=_;rw[List.filter_append,ih oma]
  by_cases e:n=c
  ·subst e;rw[ine (Nat.lt_irrefl _),ipo (Nat.lt_succ_self _)];unfold rwc;rw[ipo hf,List.filter_cons_of_pos (p:=λr:Rw=>decide (r.p.c=(n:Int))) (dqt rfl)];rfl
  ·have e2:(rwc x l d s n).filter (λr=>decide (r.p.c=(c:Int)))= []:=by
    refine yX λr hr=>dqf λhc2=> ?_
    unfold rwc at hr;split at hr
    ·rw[List.mem_singleton]at hr;subst hr;have hc2:((n:Nat):Int)=c:=hc2;omega
    ·rename_i g;split at hr
     ·have hg:=xA l (n:Int);have q:=lW h (show (fnU l (n:Int)).toNat<l.length by omega) hr;have q2:=I5 h (show (fnU l (n:Int)).toNat<l.length by omega) q;have q3:=q2.u;rw[hc2]at q3
      have:=q.u
      omega
     ·cases hr
   rw[e2,lan]
   by_cases g:c<n
   ·rw[ipo g,ipo oma]
   ·rw[ine g,ine oma]
theorem N8{x:Co}{l:List Un}{d:List Dc}{s:Nat}(h:wt x l d s){c:Nat}(hc:c<x.col.length)(hf:fnU l (c:Int)<0):ccB x (bsW (rwA x l d s)) c=true:=by
 have hS:=BO d h.us h.cv h.co h.sl;have hF:=VS h hc hf x.col.length (nlr _);rw[hS,ipo hc]at hF;have h1:cW (bsW (rwA x l d s)) c (bsW (rwA x l d s)).length=1:=by
  rw[jU,Yv _ _ _ (nlr _),List.take_length,hF];rfl
 unfold ccB;rw[h1,dqt rfl,Bool.true_and];have hm:(⟨pcT x s c,-1,-1⟩:Rw)∈rwA x l d s:=by
  have:(⟨pcT x s c,-1,-1⟩:Rw)∈(rwA x l d s).filter (λr=>decide (r.p.c=(c:Int))):=by rw[hF];exact List.mem_singleton.2 rfl
  exact (List.mem_filter.1 this).1
 obtain⟨i,hi,he⟩:=List.getElem_of_mem hm;refine qP.2 ⟨i,by rw[jU];exact hi,?_⟩;rw[ww hi];have e:(rwA x l d s).getD i default=⟨pcT x s c,-1,-1⟩:=by rw[gdqA,zg hi];exact he
 rw[e];show (decide (((c:Nat):Int)=(c:Int))&&decide ((pcT x s c).t.text=txA x c))=true;rw[dqt rfl,Bool.true_and,decide_eq_true_iff];obtain⟨a1,a2,a3⟩:=dQ h.cv h.co h.sl hc hf;obtain⟨b1,_,b3⟩:=dQ h.cv h.co (show 0<x.sig.length from h.co.sg.1) hc hf;unfold pcB at a1 b1;have a1:=of_decide_eq_true a1;have b1:=of_decide_eq_true b1;unfold clT at a2;rw[ine oma,ine oma]at a2;exact Option.some.inj a2
theorem N9{x:Co}{l:List Un}{d:List Dc}{s:Nat}(h:wt x l d s):pvE x l (bsW (rwA x l d s))=0:=by
 have h1:vaE x l=0:=by
  unfold vaE;rw[ine (λhc=>hc h.ca),ine];unfold rgB;rw[h.us,h.cv];simp
 unfold pvE;have h2:we (oW x l (bsW (rwA x l d s))) 0 (bsW (rwA x l d s)).length=0:=zZ λi hi=>Oa h (by rw[jU]at hi;exact hi)
 rw[h1,h2,ine (by simp),ine (by simp)];refine zZ λc hc=> ?_
 unfold M9;split
 ·rfl
 ·rename_i g;rw[ipo (N8 h hc oma)]
def unF(x:Co)(r:Nat×Nat):Un:=⟨(r.1:Int),(r.2:Int),aF x r.1 r.2⟩
def rnL(x:Co):List (Nat×Nat):=bz (cmB x) x.col.length
def yt(x:Co):List Un:=(rnL x).map (unF x)
theorem VO(p:Nat->Bool)(n:Nat): ∀d f,(kE p n d f).Pairwise λa b=>a.2<b.1:=by
 intro d
 induction d with
 |zero=>intro f;exact List.Pairwise.nil
 |succ d ih=>
  intro f;unfold kE;split
  ·exact List.Pairwise.nil
  ·rw[List.pairwise_append];refine⟨?_,ih _,λa ha b hb=> ?_⟩
   ·split
    ·exact List.pairwise_singleton _ _
    ·exact List.Pairwise.nil
   ·split at ha
    ·rw[List.mem_singleton]at ha;subst ha
     have:=((cu p n d (nxt p (n-f) f+1)).1 b hb).1
     show nxt p (n-f) f<b.1;omega
    ·cases ha
theorem yL(x:Co):(yt x).length=(rnL x).length:=by unfold yt;rw[List.length_map]
theorem an{x:Co}{k:Nat}(hk:k<(rnL x).length):(yt x).getD k default=unF x (rnL x)[k]:=by
 unfold yt;rw[gdqA,List.getElem?_map,zg hk];rfl
theorem Qa{x:Co}{k:Nat}(hk:k<(rnL x).length):(rnL x)[k].1<(rnL x)[k].2∧(rnL x)[k].2<=x.col.length∧ ∀c,(rnL x)[k].1<=c->c<(rnL x)[k].2->cmB x c=false:=Qg (List.getElem_mem hk)
theorem v8(x:Co):vr x (yt x)=true:=by
 unfold vr;rw[Bool.not_eq_true',qq];intro k hk;rw[yL]at hk;rw[Bool.not_eq_false'];obtain⟨h1,h2,_⟩:=Qa hk;refine Q7.2 ?_;rw[an hk];have hb:beH (yt x) k<((rnL x)[k].1:Int):=by
  unfold beH;split
  ·omega
  ·rename_i h0;rw[an (show k-1<(rnL x).length by omega)]
   have:=List.pairwise_iff_getElem.1 (VO (cmB x) x.col.length (x.col.length+1) 0) (k-1) k (by show _<(rnL x).length;omega) hk oma
   show ((rnL x)[k-1].2:Int)<_;have this:(rnL x)[k-1].2<(rnL x)[k].1:=this;omega
 refine⟨hb,?_,?_,?_,?_⟩
 ·show (0:Int)<=((rnL x)[k].1:Nat);omega
 ·show ((rnL x)[k].1:Int)<((rnL x)[k].2:Nat);omega
 ·show ((rnL x)[k].2:Int)<=_;omega
 ·show aF x (rnL x)[k].1 (rnL x)[k].2=aF x (((rnL x)[k].1:Nat):Int).toNat (((rnL x)[k].2:Nat):Int).toNat;rw[itn,itn]
theorem Za(x:Co):cvA x (yt x)=true:=by
 unfold cvA;rw[Bool.not_eq_true',qq];intro c hc;cases h:cmB x c with
 |true=>simp
 |false=>
  obtain⟨r,hr,h1,h2⟩:=lU hc h;obtain⟨k,hk,rfl⟩:=List.getElem_of_mem hr
  have:cvB (yt x) c=true:=by
   unfold cvB;refine qP.2 ⟨k,by rw[yL];exact hk,?_⟩;rw[an hk,Bool.and_eq_true,decide_eq_true_iff,decide_eq_true_iff];exact⟨by show (((rnL x)[k].1:Nat):Int)<=_;exact Int.ofNat_le.2 h1,by show _<(((rnL x)[k].2:Nat):Int);exact Int.ofNat_lt.2 h2⟩
  rw[this];rfl
theorem CG{x:Co}(h:coE x=0):vaE x (yt x)=0:=by
 unfold vaE;rw[h,ine (by simp),ine];unfold rgB;rw[v8,Za];simp
theorem wt.mk0{x:Co}{l:List Un}{s:Nat}(h:vaE x l=0)(hs:s<x.sig.length)(hl:(rwA x l [] s).length<=1024):wt x l [] s:=by
 obtain⟨h1,h2,h3⟩:=bD h;exact⟨h1,h2,h3,hs,by simp,λj hj=>absurd hj (nnz j),hl⟩
theorem hU{x:Co}{l:List Un}{s:Nat}(h:vr x l=true):(rwA x l [] s).length<=x.col.length:=by
 have:=congrArg List.length (BM (s:=s) h)
 rw[List.length_map]at this;rw[this];exact al x s 0 _
structure Fo where
 k:Int
 g:Str
 t:Int
def foD(o:Fo):Dc:=⟨o.k,o.g,o.t,[]⟩
def foS(x:Co)(a:Nat)(c:Nat)(o:Fo)(s:Nat):Fo:=
 if (x.col.getD c []).getD s 0<0 then o else if s=a then ⟨1,x.sig.getD s [],(x.col.getD c []).getD s 0⟩ else if o.g= [] then ⟨o.k,x.sig.getD s [],(x.col.getD c []).getD s 0⟩ else o
def foR(x:Co)(a c:Nat)(o:Fo):Nat->Fo
 |0=>o
 |s+1=>foS x a c (foR x a c o s) s
def foC(x:Co)(a f:Nat):Nat->Fo
 |0=>⟨3,[],0⟩
 |d+1=>foR x a (f+d) (foC x a f d) x.sig.length
def foU(x:Co)(a:Nat)(u:Un):Dc:=foD (foC x a u.frm.toNat (u.to.toNat-u.frm.toNat))
def foL(x:Co)(l:List Un)(a:Nat):List Dc:=l.map (foU x a)
theorem Ku{d:List Dc}{j:Nat}(ht: ∀o∈d,o.txt.length<=1000):(d.getD j default).txt.length<=1000:=by
 by_cases hj:j<d.length
 ·exact ht _ (zI hj)
 ·rw[gdqA,List.getElem?_eq_none oma];exact nzl _
theorem BQ{x:Co}{l:List Un}{d:List Dc}{s k:Nat}(ht: ∀o∈d,o.txt.length<=1000):(rwU x l d s k).length<=(toN l k-frN l k)+1000:=by
 unfold rwU;split
 ·rw[jD]
  have:=al x s (frN l k) (toN l k-frN l k)
  omega
 ·rw[jD];unfold gV;split
  ·have:=al x (zJ x (d.getD (wl x l d k d.length).toNat default).sig).toNat (frN l k) (toN l k-frN l k)
   omega
  ·split
   ·rw[List.length_map];have h1:=cX (d.getD (wl x l d k d.length).toNat default).txt;have h2:=Ku (j:=(wl x l d k d.length).toNat) ht;omega
   ·exact nzl _
theorem Qn(x:Co)(s f t:Nat):(rwC x s f t).length<=t-f:=by
 unfold rwC;rw[jD];exact al x s f _
theorem cw{x:Co}{l:List Un}{d:List Dc}{s:Nat}(h:vr x l=true)(ht: ∀o∈d,o.txt.length<=1000): ∀k,k<=l.length->(rwL x l d s k).length<=zf l k+1000*k∧k<=zf l k:=by
 intro k
 induction k with
 |zero=>intro _;exact⟨nzl _,nzl _⟩
 |succ k ih=>
  intro hk;obtain⟨i1,i2⟩:=ih oma;have hp:=aj h (show k<l.length by omega);obtain⟨_,_,a3,a4,_⟩:=jz h (show k<l.length by omega);have u:=BQ (x:=x) (l:=l) (s:=s) (k:=k) ht;have c:=Qn x s (zf l k) (frN l k);rw[xj];refine⟨?_,oma⟩;show (rwL x l d s k++(rwC x s (zf l k) (frN l k)++rwU x l d s k)).length<=_;rw[lap,lap];omega
theorem BL{x:Co}{l:List Un}{d:List Dc}{s:Nat}(h:vr x l=true)(ht: ∀o∈d,o.txt.length<=1000):(rwA x l d s).length<=1001*x.col.length:=by
 obtain⟨h1,h2⟩:=cw (d:=d) (s:=s) h ht l.length (nlr _);have hp:=vX h (nlr l.length);have c:=Qn x s (zf l l.length) x.col.length;unfold rwA;rw[lap];omega
theorem Qk{x:Co}{l:List Un}{d:List Dc}{s:Nat}(hc:x.col.length<=10000)(ht: ∀o∈d,o.txt.length<=1000)(h:vaE x l=0):(rwA x l d s).length<=1000000000:=by
 have:=BL (d:=d) (s:=s) (bD h).2.1 ht
 omega
end RC
end
section
open Go Go.Proofs AF
def zW:List Nat:= []
def kA:C:=
 (pk [O1 1 (.box 0 119) 0,oF 2 0] ((pk [oE 6 4 1,LD 7 6,oT 8 .lss 7 0,MV 9 8,tv 10 9 4 1,tE 11 9 10,ph 12 9 (.bin .gtr) 11 (i6 31),PT 13 9 12] (p7 13 (p9 [oF 2 2]))).seq (pk [oE
 14 4 1,LD 15 14,oT 16 .and 15 2,oT 17 .neq 16 0,oE 18 4 1,LD 19 18,oT 20 .and 19 8,oT 21 .neq 20 0,MV 3 17,MV 4 21] ((pk [MV 22 3,MV 23 22,MG 24 23 true 4,PF 25 23 24] (p7 25
 (p9 [oF 2 8]))).seq (pk [MC 5 (.fn (Fn.func 145) [] [])] ((pk [MV 26 3] (p7 26 (rv [MC 5 (.fn (Fn.func 256) [] [])]))).seq ((pk [MV 27 4] (p7 27 (rv [MC 5 (.fn (Fn.func 257) []
 [])]))).seq ((C.block 0 ((pk [MV 29 5,oE 30 0 1,LD 31 30,O2 32 .callv 29 31,O1 33 (.un UnOp.not) 32,MV 28 33] (C.cond (.t 28) C.skip (pk [O1 34 (.load (some 6)) 1,O1 35 (.call
 258 true) 34,MV 36 35,P1 37 36 true (.fldA 1) 1,P1 38 36 true (.load none) 37,P1 39 36 true (.call 259 true) 38,P1 40 36 true (.un UnOp.not) 39,PF 41 36 40,MV 28 41] (C.cond
 (.t 28) C.skip (rv [O1 42 (.load (some 6)) 1,O1 43 (.call 258 true) 42,O1 44 (.un UnOp.not) 43,MV 45 44,P1 46 45 true (.fldA 1) 1,P1 47 45 true (.load none) 46,P1 48 45 true
 (.fldA 0) 1,P1 49 45 true (.load none) 48,P2 50 45 true (.bin .neq) 47 49,PF 51 45 50,MV 28 51]))))).seq (C.cond (.t 28) (p9 [oF 2 11]) (pk [oE 53 2 1,oE 54 1 53,LD 55 54,oT 56
 .lss 55 0,MV 52 56] (C.cond (.t 52) (p9 [oF 2 2]) (pk [oE 58 2 1,oE 59 0 58,LD 60 59,O1 61 (.call 260 true) 60,O1 62 (.un UnOp.not) 61,MV 63 62,tv 64 63 5 1,tE 65 63 64,oX 66
 63 (.call 260 true) 65,oX 67 63 (.un UnOp.not) 66,PT 68 63 67,MV 57 68] (p7 57 (p9 [oF 2 14])))))))).seq (p9 [oF 2 0])))))))))
theorem jo:qK Tryz.prog 185 69 1 [RV.tmp 2] kA:=fi Tryz.f185 [1] zW []
def bN:C:=
 (pk [MC 2 (.bool false)] ((pk [MV 5 0,O1 6 .slen 5,oT 7 .lss 6 3,MV 8 7,pc 9 8 0,ph 10 8 .sidx 9 (i6 0),ph 11 8 (.bin .neq) 10 (.int .u8 91),PT 12 8 11,MV 13 12,pc 14 13 0,pc 15
 13 0,oX 16 13 .slen 15,ph 17 13 (.bin .sub) 16 (i6 1),pb 18 13 .sidx 14 17,ph 19 13 (.bin .neq) 18 (.int .u8 93),PT 20 13 19] (p7 20 (p9 [MC 2 (.bool false)]))).seq (pk [MV 22
 0,MV 23 0,O1 24 .slen 23,oT 25 .sub 24 1,ON 26 (.sslc true true) [.t 22,.c (i6 1),.t 25],O1 27 (.call 195 true) 26,MV 21 27,O1 28 (.ext 0) 21,O1 29 (.ext 1) 21,MV 3 28,MV 4 29]
 (p9 [MV 30 4,O1 31 (.isnil .iface false) 30,MV 32 31,MG 33 32 true 3,PC 34 32 true (.bin .geq) 33 (i6 1),PF 35 32 34,MV 36 35,MG 37 36 true 3,PC 38 36 true (.bin .leq) 37 (i6
 64),PF 39 36 38,MV 40 39,MG 41 40 true 0,MG 42 40 true 3,P1 43 40 true (.call 116 true) 42,PN 44 40 true (.bin .add) [.c (.str [91]),.t 43],PC 45 40 true (.bin .add) 44 (.str
 [93]),P2 46 40 true (.bin .eql) 41 45,PF 47 40 46,MV 2 47]))))
theorem x6:qK Tryz.prog 256 48 0 [RV.tmp 2] bN:=fi Tryz.f256 [] zW []
def Z8:C:=
 (pk [MC 2 (.bool false)] ((pk [MV 4 0,O1 5 .slen 4,oT 6 .neq 5 1] (p7 6 (p9 [MC 2 (.bool false)]))).seq (pk [MV 7 0,OC 8 .sidx 7 (i6 0),O1 9 (.call 220 true) 8,MV 3 9] (p9 [MV
 10 3,oT 11 .eql 10 5,MV 12 11,pc 13 12 3,ph 14 12 (.bin .eql) 13 (i6 4),PT 15 12 14,MV 2 15]))))
theorem s5:qK Tryz.prog 257 16 0 [RV.tmp 2] Z8:=fi Tryz.f257 [] zW []
def EL:C:=
 (pk [O1 1 (.box 0 119) 0,MC 2 (.bool false)] (p9 [oE 3 4 1,LD 4 3,oT 5 .and 4 10,oT 6 .eql 5 0,MV 2 6]))
theorem G3:qK Tryz.prog 258 7 1 [RV.tmp 2] EL:=fi Tryz.f258 [1] zW []
def EM:C:=
 (pk [MC 2 (.bool false)] ((pk [MV 4 0,O1 5 .slen 4,oF 6 0] (C.block 0 (pk [BI 7 .lss 6 5] ((p8 7 0).seq ((C.block 1 (pk [MV 8 6,MV 3 8] (pk [MV 9 0,MV 10 3,O2 11 .sidx 9 10,O1
 12 (.call 309 true) 11,O1 13 (.un UnOp.not) 12] (p7 13 (p9 [MC 2 (.bool false)]))))).seq (rv [oT 14 .add 6 1,MV 6 14])))).loop)).seq (p9 [MV 15 0,BC 16 .neq 15 (.str []),MV 17
 16,MG 18 17 true 0,P1 19 17 true .slen 18,PC 20 17 true (.bin .leq) 19 (i6 64),PF 21 17 20,MV 2 21])))
theorem G4:qK Tryz.prog 259 22 0 [RV.tmp 2] EM:=fi Tryz.f259 [] zW []
def Ym:C:=
 (pk [MC 2 (.bool false)] (p9 [MV 3 0,BC 4 .eql 3 (.str []),MV 5 4,pc 6 5 0,oX 7 5 (.call 181 true) 6,PT 8 5 7,MV 2 8]))
theorem Xe:qK Tryz.prog 260 9 0 [RV.tmp 2] Ym:=fi Tryz.f260 [] zW []
def Z9:C:=
 (pk [MC 2 (.bool false)] (pk [MV 4 0,O1 5 (.call 220 true) 4,MV 3 5] (p9 [MV 6 0,O1 7 (.call 357 true) 6,MV 8 7,pc 9 8 3,ph 10 8 (.bin .eql) 9 (i6 2),PT 11 8 10,MV 12 11,pc 13
 12 3,ph 14 12 (.bin .eql) 13 (i6 4),PT 15 12 14,MV 2 15])))
theorem td:qK Tryz.prog 309 16 0 [RV.tmp 2] Z9:=fi Tryz.f309 [] zW []
def Yt:C:=
 (pk [MC 2 (.bool false)] (pk [MV 4 0,O1 5 (.call 220 true) 4,MV 3 5] (p9 [MV 6 3,oT 7 .eql 6 1,MV 8 7,pc 9 8 3,ph 10 8 (.bin .eql) 9 (i6 3),PT 11 8 10,MV 2 11])))
theorem Xl:qK Tryz.prog 357 12 0 [RV.tmp 2] Yt:=fi Tryz.f357 [] zW []
def NB:C:=
 (pk [O1 1 (.box 0 26) 0,oF 2 0] ((pk [oE 4 0 1,LD 5 4,oE 6 1 1,LD 7 6,oE 8 2 1,LD 9 8,ON 10 (.call 111 true) [.t 5,.t 7,.t 9],MV 3 10] (pk [MV 11 3,oT 12 .neq 11 0] (p7 12 (p9
 [MV 13 3,MV 2 13])))).seq ((pk [oE 14 2 1,LD 15 14,oE 16 3 1,LD 17 16,O2 18 (.call 112 true) 15 17,oT 19 .neq 18 0] (p7 19 (p9 [oF 2 19]))).seq (p9 [oF 2 0]))))
theorem HM:qK Tryz.prog 47 20 1 [RV.tmp 2] NB:=fi Tryz.f47 [1] zW []
def rA:C:=
 (pk [oF 6 0] ((C.block 0 (pk [MV 12 0,O1 13 (.call 181 true) 12,O1 14 (.un UnOp.not) 13,MV 11 14] (C.cond (.t 11) (p9 [oF 6 14]) (pk [MV 16 1,O1 17 .len 16,oT 18 .eql 17 0,MV 15
 18] (C.cond (.t 15) (p9 [oF 6 5]) (pk [MV 20 1,O1 21 .len 20,oT 22 .gtr 21 32,MV 19 22] (p7 19 (p9 [oF 6 4])))))))).seq ((pk [MV 23 1,O1 24 .len 23,oF 25 0] (C.block 1 (pk [BI
 26 .lss 25 24] ((p8 26 1).seq ((C.block 2 (pk [MV 27 25,O2 28 (.idxA 1) 23 25,LD 29 28,MV 7 27,MV 8 29] ((pk [MV 30 8,O1 31 (.call 182 true) 30,O1 32 (.un UnOp.not) 31] (p7 32
 (p9 [oF 6 14]))).seq (pk [MV 33 1,MV 34 7,O2 35 (.slc 1 false true) 33 34,MV 36 8,O2 37 (.call 128 true) 35 36] (p7 37 (p9 [oF 6 7])))))).seq (rv [oT 38 .add 25 1,MV 25
 38])))).loop)).seq ((pk [MV 39 2,O1 40 .len 39,MV 41 1,O1 42 .len 41,BI 43 .neq 40 42] (p7 43 (p9 [oF 6 9]))).seq ((pk [MV 44 2,O1 45 .len 44,oF 46 0] (C.block 3 (pk [BI 47
 .lss 46 45] ((p8 47 3).seq ((C.block 4 (pk [O2 48 (.idxA 1) 44 46,LD 49 48,MV 10 49] ((pk [MV 50 10,O1 51 .len 50,oT 52 .gtr 51 1024] (p7 52 (p9 [oF 6 4]))).seq (pk [MV 53
 10,OC 54 (.call 183 true) 53 (.fn (Fn.func 184) [] [])] (p7 54 (p9 [oF 6 1])))))).seq (rv [oT 55 .add 46 1,MV 46 55])))).loop)).seq (p9 [oF 6 0]))))))
theorem lh:qK Tryz.prog 111 56 0 [RV.tmp 6] rA:=fi Tryz.f111 [] zW []
def Ej:C:=
 (pk [O1 1 (.box 0 119) 0,MC 2 (.bool false)] (p9 [O1 3 (.load (some 6)) 1,O1 4 (.call 185 true) 3,oT 5 .neq 4 0,MV 2 5]))
theorem Gy:qK Tryz.prog 184 6 1 [RV.tmp 2] Ej:=fi Tryz.f184 [1] zW []
def rE:C:=
 (pk [MC 2 (.bool false)] (pk [MV 6 0,OC 7 (.call 254 true) 6 (.str [42]),MV 5 7,O1 8 (.ext 0) 5,O1 9 (.ext 1) 5,MV 3 8,MV 4 9] (p9 [MV 10 3,O1 11 (.call 181 true) 10,MV 12 11,MG
 13 12 true 4,P1 14 12 true (.un UnOp.not) 13,MG 15 12 true 14,pc 16 15 0,oX 17 15 .slen 16,ph 18 15 (.bin .leq) 17 (i6 16),QT 19 12 true 15 18,PF 20 12 19,MV 2 20])))
theorem ll:qK Tryz.prog 182 21 0 [RV.tmp 2] rE:=fi Tryz.f182 [] zW []
def Ek:C:=
 (pk [oF 2 0] ((C.block 0 (pk [MV 4 0,O1 5 .len 4,oT 6 .eql 5 0,MV 3 6] (C.cond (.t 3) (p9 [oF 2 5]) (pk [MV 8 0,O1 9 .len 8,oT 10 .gtr 9 32,MV 11 10,pc 12 11 0,ph 13 11 (.call
 261 true) 12 (.fn (Fn.func 262) [] []),PT 14 11 13,MV 7 14] (p7 7 (p9 [oF 2 4])))))).seq (p9 [oF 2 0])))
theorem Gz:qK Tryz.prog 186 15 0 [RV.tmp 2] Ek:=fi Tryz.f186 [] zW []
def EN:C:=
 (pk [MC 2 (.bool false)] (p9 [MV 3 0,O1 4 .len 3,oT 5 .gtr 4 1024,MV 2 5]))
theorem G6:qK Tryz.prog 262 6 0 [RV.tmp 2] EN:=fi Tryz.f262 [] zW []
def D1:C:=
 (pk [oF 4 0] ((pk [MV 6 0,O1 7 (.call 186 true) 6,MV 5 7] (pk [MV 8 5,oT 9 .neq 8 0] (p7 9 (p9 [MV 10 5,MV 4 10])))).seq ((pk [MV 11 0,MV 12 1,O2 13 (.call 187 true) 11 12,O1 14
 (.un UnOp.not) 13] (p7 14 (p9 [oF 4 19]))).seq (p9 [oF 4 0]))))
theorem F6:qK Tryz.prog 112 15 0 [RV.tmp 4] D1:=fi Tryz.f112 [] zW []
def Em:C:=
 (pk [MC 4 (.bool false)] (pk [MV 12 0,O1 13 .len 12,⟨some 14,none,.mkslc 0 1 3 [i6 0] 8,[.t 13,.t 13]⟩,MV 5 14] ((pk [MV 15 1,O1 16 .len 15,oF 17 0] (C.block 0 (pk [BI 18 .lss
 17 16] ((p8 18 0).seq ((C.block 1 (pk [O2 19 (.idxA 1) 15 17,LD 20 19,MV 7 20] ((pk [MV 21 7,O1 22 .len 21,MV 23 0,O1 24 .len 23,BI 25 .neq 22 24] (p7 25 (p9 [MC 4 (.bool
 false)]))).seq (pk [MC 8 (.bool false)] ((pk [MV 26 7,O1 27 .len 26,oF 28 0] (C.block 2 (pk [BI 29 .lss 28 27] ((p8 29 2).seq ((C.block 3 (pk [MV 30 28,O2 31 (.idxA 1) 26 28,LD
 32 31,MV 9 30,MV 10 32] ((pk [MV 33 10,BC 34 .eql 33 (i6 (-1))] (p7 34 (C.exit 3))).seq ((pk [MV 35 10,MV 36 5,MV 37 9,O2 38 (.idxA 1) 36 37,LD 39 38,BI 40 .neq 35 39,MV 41
 40,pc 42 41 10,pc 43 41 0,pc 44 41 9,pb 45 41 (.idxA 1) 43 44,tE 46 41 45,oX 47 41 .len 46,pb 48 41 (.bin .geq) 42 47,PT 49 41 48] (p7 49 (p9 [MC 4 (.bool false)]))).seq (pk
 [MV 50 5,MV 51 9,O2 52 (.idxA 1) 50 51,LD 53 52,oT 54 .add 53 1,O2 55 (.idxA 1) 50 51,ST 1 55 54] (rv [MC 8 (.bool true)])))))).seq (rv [oT 56 .add 28 1,MV 28
 56])))).loop)).seq (pk [MV 57 8,O1 58 (.un UnOp.not) 57] (p7 58 (p9 [MC 4 (.bool false)])))))))).seq (rv [oT 59 .add 17 1,MV 17 59])))).loop)).seq ((pk [MV 60 0,O1 61 .len
 60,oF 62 0] (C.block 4 (pk [BI 63 .lss 62 61] ((p8 63 4).seq ((C.block 5 (pk [MV 64 62,MV 11 64] (pk [MV 65 5,MV 66 11,O2 67 (.idxA 1) 65 66,LD 68 67,MV 69 0,MV 70 11,O2 71
 (.idxA 1) 69 70,LD 72 71,O1 73 .len 72,BI 74 .neq 68 73] (p7 74 (p9 [MC 4 (.bool false)]))))).seq (rv [oT 75 .add 62 1,MV 62 75])))).loop)).seq (p9 [MC 4 (.bool true)])))))
theorem GE:qK Tryz.prog 187 76 1 [RV.tmp 4] Em:=fi Tryz.f187 [14] zW []
def Ny:C:=
 (pk [O1 1 (.box 0 26) 0,oF 2 0] ((pk [oE 10 0 1,LD 11 10,oE 12 1 1,LD 13 12,oE 14 2 1,LD 15 14,ON 16 (.call 60 true) [.t 11,.t 13,.t 15],MV 3 16] (pk [MV 17 3,oT 18 .neq 17 0]
 (p7 18 (p9 [MV 19 3,MV 2 19])))).seq (pk [oE 20 1 1,LD 21 20,O1 22 .len 21,⟨some 23,none,.mkslc 1 1 3 [i6 0] 8,[.t 22,.t 22]⟩,MV 4 23] ((pk [oF 5 0] (C.block 0 ((pk [MV 24 5,oE
 25 3 1,LD 26 25,O1 27 .len 26,BI 28 .lss 24 27] (p8 28 0)).seq ((C.block 1 (pk [oE 31 3 1,LD 32 31,MV 33 5,O2 34 (.idxA 1) 32 33,LD 35 34,MV 6 35] ((pk [MV 36 6,O1 37 .len
 36,MV 38 4,O1 39 .len 38,BI 40 .neq 37 39] (p7 40 (p9 [oF 2 19]))).seq (pk [MC 7 (.bool false)] ((pk [oF 8 0] (C.block 2 ((sv 41 8 6 2).seq ((C.block 3 ((pk [MV 47 6,MV 48 8,O2
 49 (.idxA 1) 47 48,LD 50 49,BC 51 .eql 50 (i6 (-1))] (p7 51 (C.exit 3))).seq ((pk [MV 52 6,MV 53 8,O2 54 (.idxA 1) 52 53,LD 55 54,MV 56 4,MV 57 8,O2 58 (.idxA 1) 56 57,LD 59
 58,BI 60 .neq 55 59,MV 61 60,pc 62 61 6,pc 63 61 8,pb 64 61 (.idxA 1) 62 63,tE 65 61 64,tv 66 61 2 1,tE 67 61 66,pc 68 61 8,pb 69 61 (.idxA 1) 67 68,tE 70 61 69,oX 71 61 .len
 70,pb 72 61 (.bin .geq) 65 71,PT 73 61 72] (p7 73 (p9 [oF 2 19]))).seq (pk [MV 74 4,MV 75 8,O2 76 (.idxA 1) 74 75,LD 77 76,oT 78 .add 77 1,O2 79 (.idxA 1) 74 75,ST 1 79 78] (rv
 [MC 7 (.bool true)]))))).seq (sm 45 8))).loop)).seq (pk [MV 80 7,O1 81 (.un UnOp.not) 80] (p7 81 (p9 [oF 2 19])))))))).seq (sm 29 5))).loop)).seq ((pk [oF 9 0] (C.block 4 ((sv
 82 9 4 4).seq ((C.block 5 (pk [MV 88 4,MV 89 9,O2 90 (.idxA 1) 88 89,LD 91 90,oE 92 2 1,LD 93 92,MV 94 9,O2 95 (.idxA 1) 93 94,LD 96 95,O1 97 .len 96,BI 98 .neq 91 97] (p7 98
 (p9 [oF 2 19])))).seq (sm 86 9))).loop)).seq (p9 [oF 2 0]))))))
theorem F5:qK Tryz.prog 10 99 2 [RV.tmp 2] Ny:=fi Tryz.f10 [1,23] zW []
def Fv:C:=
 (pk [oF 6 0] ((pk [MV 11 0,O1 12 (.call 136 true) 11,O1 13 (.un UnOp.not) 12] (p7 13 (p9 [oF 6 14]))).seq ((pk [MV 14 1,O1 15 .len 14,oT 16 .eql 15 0] (p7 16 (p9 [oF 6 5]))).seq
 ((pk [MV 17 1,O1 18 .len 17,oT 19 .gtr 18 32] (p7 19 (p9 [oF 6 4]))).seq ((pk [oF 7 0] (C.block 0 ((sv 20 7 1 0).seq ((C.block 1 ((pk [MV 26 1,MV 27 7,O2 28 (.idxA 1) 26 27,LD
 29 28,O1 30 (.call 137 true) 29,O1 31 (.un UnOp.not) 30] (p7 31 (p9 [oF 6 14]))).seq (pk [oF 8 0] (C.block 2 ((pk [MV 32 8,MV 33 7,BI 34 .lss 32 33] (p8 34 2)).seq ((C.block 3
 (pk [MV 37 1,MV 38 8,O2 39 (.idxA 1) 37 38,LD 40 39,MV 41 1,MV 42 7,O2 43 (.idxA 1) 41 42,LD 44 43,BI 45 .eql 40 44] (p7 45 (p9 [oF 6 7])))).seq (sm 35 8))).loop)))).seq (sm 24
 7))).loop)).seq ((pk [MV 46 2,O1 47 .len 46,MV 48 1,O1 49 .len 48,BI 50 .neq 47 49] (p7 50 (p9 [oF 6 9]))).seq ((pk [oF 9 0] (C.block 4 ((sv 51 9 2 4).seq ((C.block 5 ((pk [MV
 57 2,MV 58 9,O2 59 (.idxA 1) 57 58,LD 60 59,O1 61 .len 60,oT 62 .gtr 61 1024] (p7 62 (p9 [oF 6 4]))).seq (pk [oF 10 0] (C.block 6 ((pk [MV 63 10,MV 64 2,MV 65 9,O2 66 (.idxA 1)
 64 65,LD 67 66,O1 68 .len 67,BI 69 .lss 63 68] (p8 69 6)).seq ((C.block 7 (pk [MV 72 2,MV 73 9,O2 74 (.idxA 1) 72 73,LD 75 74,MV 76 10,O2 77 (.idxA 6) 75 76,O1 78 (.load (some
 6)) 77,O1 79 (.call 138 true) 78,oT 80 .neq 79 0] (p7 80 (p9 [oF 6 1])))).seq (sm 70 10))).loop)))).seq (sm 55 9))).loop)).seq (p9 [oF 6 0]))))))))
theorem J1:qK Tryz.prog 60 81 0 [RV.tmp 6] Fv:=fi Tryz.f60 [] zW []
def rB:C:=
 (pk [MC 2 (.bool false)] ((pk [MV 4 0,O1 5 .slen 4,MV 3 5] (pk [MV 6 3,oT 7 .gtr 6 0,MV 8 7,MG 9 8 true 0,MG 10 8 true 3,PC 11 8 true (.bin .sub) 10 (i6 1),P2 12 8 true .sidx 9
 11,PC 13 8 true (.bin .eql) 12 (.int .u8 42),PF 14 8 13] (p7 14 (p9 [MV 15 3,oT 16 .leq 15 16,MV 17 16,MG 18 17 true 0,MG 19 17 true 3,PC 20 17 true (.bin .sub) 19 (i6 1),P2 21
 17 true (.sslc false true) 18 20,P1 22 17 true (.call 136 true) 21,PF 23 17 22,MV 2 23])))).seq (p9 [MV 24 0,O1 25 (.call 136 true) 24,MV 2 25])))
theorem li:qK Tryz.prog 137 26 0 [RV.tmp 2] rB:=fi Tryz.f137 [] zW []
end
section
open Go Go.Proofs AF HY LN
namespace RC
theorem O0(s:Str)(h:JN)(hs:s.length<=1000000000):ACalls Tryz.prog 260 [.str s] h (.bool (t7 s)) h:=by
 have c1:=λh=>t44 s h hs
 unfold t7
 by_cases g:s= []
 ·subst g;rw[dqt rfl,Bool.true_or];refine acO Xe ?_;simp (disch:=omega) only[Ym,go_sem]
  repeat' first|(refine qj ( .bool false) ?_;simp (disch:=omega) only[go_sem])|exact tS|fail
 ·have k1:(s= [])=False:=eqf g;rw[dqf g,Bool.false_or];refine acO Xe ?_;simp (disch:=omega) only[Ym,k1,go_sem]
  repeat' first|(refine cG (λe=>c1 _) flk ?_;simp (disch:=omega) only[go_sem])|exact tS|fail
theorem Tv(s:Str)(h:JN)(hs:s.length<=1000000000):ACalls Tryz.prog 257 [.str s] h (.bool (Dl s)) h:=by
 unfold Dl
 by_cases g:s.length=1
 ·have k1:((s.length:Int)=1)=True:=eqt oma;have k2:((0:Int)<s.length)=True:=eqt oma;have e:(s[0]?).getD 0=ch s 0:=by simp[ch,gdqA]
  have c5:=λh=>yr (ch s 0) h
  rw[dqt g,Bool.true_and];obtain⟨k,hk⟩:=Qt (kind (ch s 0))
  rw[<-hk]at c5 ⊢
  by_cases g1:k=5
  ·have q1:(k=5)=True:=eqt g1;rw[dqt g1,Bool.true_or];refine acO s5 ?_;simp (disch:=omega) only[Z8,k1,go_sem]
   repeat' first|(refine cA (c5 _) flk ?_;simp (disch:=omega) only[e,q1,go_sem])|exact tS|with_reducible apply aiA|exact clz|fail
  ·have q1:(k=5)=False:=eqf g1;rw[dqf g1,Bool.false_or];refine acO s5 ?_;simp (disch:=omega) only[Z8,k1,go_sem]
   repeat' first|(refine cA (c5 _) flk ?_;simp (disch:=omega) only[e,q1,go_sem])|exact tS|with_reducible apply aiA|exact clz|fail
 ·have k1:((s.length:Int)=1)=False:=eqf oma;rw[dqf g,Bool.false_and];refine acO s5 ?_;simp (disch:=omega) only[Z8,k1,go_sem]
  repeat' first|exact tS|fail
theorem M7(c:UInt8)(h:JN):ACalls Tryz.prog 357 [.int .u8 (c.toNat:Int)] h (.bool (decide (kind c=1)||decide (kind c=3))) h:=by
 have c5:=λh=>yr c h
 obtain⟨k,hk⟩:=Qt (kind c)
 rw[<-hk]at c5 ⊢
 by_cases g1:k=1
 ·have q1:(k=1)=True:=eqt g1;rw[dqt g1,Bool.true_or];refine acO Xl ?_;simp (disch:=omega) only[Yt,go_sem]
  repeat' first|(refine cA (c5 _) flk ?_;simp (disch:=omega) only[q1,go_sem])|exact tS|fail
 ·have q1:(k=1)=False:=eqf g1;rw[dqf g1,Bool.false_or];refine acO Xl ?_;simp (disch:=omega) only[Yt,go_sem]
  repeat' first|(refine cA (c5 _) flk ?_;simp (disch:=omega) only[q1,go_sem])|exact tS|fail
theorem Nc(c:UInt8)(h:JN):ACalls Tryz.prog 309 [.int .u8 (c.toNat:Int)] h (.bool (wi c)) h:=by
 have c5:=λh=>yr c h
 have c6:=λh=>M7 c h
 unfold wi;rw[<-Bool.or_assoc];obtain⟨k,hk⟩:=Qt (kind c)
 rw[<-hk]at c5 c6 ⊢;obtain⟨b,hb⟩:=Qt ((decide (k=1)||decide (k=3)))
 rw[<-hb]at c6 ⊢;cases b with
 |true=>
  rw[Bool.true_or];refine acO td ?_;simp (disch:=omega) only[Z9,go_sem]
  repeat' first|((first|refine cA (c5 _) ?_ ?_|refine cA (c6 _) ?_ ?_);exact flk;simp (disch:=omega) only[go_sem])|exact tS|fail
 |false=>
  rw[Bool.false_or]
  by_cases g1:k=2
  ·have q1:(k=2)=True:=eqt g1;rw[dqt g1,Bool.true_or];refine acO td ?_;simp (disch:=omega) only[Z9,go_sem]
   repeat' first|((first|refine cA (c5 _) ?_ ?_|refine cA (c6 _) ?_ ?_);exact flk;simp (disch:=omega) only[q1,go_sem])|exact tS|fail
  ·have q1:(k=2)=False:=eqf g1;rw[dqf g1,Bool.false_or];refine acO td ?_;simp (disch:=omega) only[Z9,go_sem]
   repeat' first|((first|refine cA (c5 _) ?_ ?_|refine cA (c6 _) ?_ ?_);exact flk;simp (disch:=omega) only[q1,go_sem])|exact tS|fail
theorem Pe(s:Str)(h:JN)(hs:s.length<=1000000000):ACalls Tryz.prog 259 [.str s] h (.bool (Dm s)) h:=by
 obtain⟨R,hR⟩:=Qt (Dm s)
 rw[<-hR];unfold Dm at hR;refine acO G4 ?_;simp (disch:=omega) only[EM,go_sem];refine qr (T:=λi:Nat=>qY 22 [(0,.str s),(5,.int .i64 s.length),(6,.int .i64 i)]) (H:=λ_=>h) (inv:=λi=>i<=s.length∧ ∀j,j<i->wi (ch s j)=true) (m:=λi=>s.length-i) 0 ⟨nzl _,λj hj=>by omega⟩ (Wk.temps ?_) ?_
 ·(simp only[go_sem,qg,qc,qb,qf];try exact tT)
 rintro i ⟨i1,i2⟩ K hK
 by_cases hi:i<s.length
 ·have k1:((i:Int)<s.length)=True:=eqt oma;have e:(s[i]?).getD 0=ch s i:=by simp[ch,gdqA]
  have c1:=λh=>Nc (ch s i) h
  cases g:wi (ch s i)with
  |false=>
   rw[g]at c1;have hV:R=false:=by
    have:((List.range s.length).all λi=>wi (ch s i))=false:=by
     rw[List.all_eq_false];exact⟨i,List.mem_range.2 hi,by simp[g]⟩
    rw[hR,this,Bool.and_false,Bool.and_false]
   rw[hV];simp (disch:=omega) only[k1,e,go_sem]
   repeat' first|(refine cA (c1 _) flk ?_;simp (disch:=omega) only[go_sem])|exact tS|with_reducible apply aiA|exact clz|fail
  |true=>
   rw[g]at c1;simp (disch:=omega) only[k1,e,go_sem]
   repeat' first|(refine cA (c1 _) flk ?_;simp (disch:=omega) only[go_sem])|with_reducible apply aiA|exact clz|fail
   refine hK _ _ (i+1) ⟨hi,λj hj=> ?_⟩ oma (Wk.temps ?_)
   ·by_cases e':j=i
    ·subst e';exact g
    ·exact i2 j oma
   ·(simp only[go_sem,qg,qc,qb,qf];try exact tT)
 ·have k1:((i:Int)<s.length)=False:=eqf oma;have hA:((List.range s.length).all λi=>wi (ch s i))=true:=by
   rw[List.all_eq_true];intro j hj;exact i2 j (by have:=List.mem_range.1 hj;omega)
  rw[hA,Bool.and_true]at hR
  by_cases g:s= []
  ·have q1:(s= [])=True:=eqt g;rw[hR,dqf (λh=>h g),Bool.false_and];simp (disch:=omega) only[k1,q1,go_sem]
   repeat' first|exact tS|fail
  ·have q1:(s= [])=False:=eqf g;have q2:decide ((s.length:Int)<=64)=decide (s.length<=64):=decide_eq_decide.2 oma;rw[hR,dqt (show s≠ []from g),Bool.true_and];simp (disch:=omega) only[k1,q1,q2,go_sem]
   repeat' first|exact tS|fail
theorem AD{k:Nat}:1<=(Lib.itoa (k:Int)).length:=by
 rw[Lib.itoa_nonneg]
 by_cases g:k<10
 ·rw[Lib.decDigits,dif_pos g];simp
 ·rw[Lib.decDigits,dif_neg g];simp
theorem H9{s:Str}(h:dX s=true):3<=s.length∧((s[0]?).getD 0).toNat=91∧((s[s.length-1]?).getD 0).toNat=93∧ ∃v:Int,Lib.atoiAll ((s.drop 1).take (s.length-1-1))= .ok v∧1<=v∧v<=64∧s=91::(Lib.itoa v++ [93]):=by
 unfold dX at h;rw[List.any_eq_true]at h;obtain⟨k,hk,e⟩:=h;have hk':k<64:=by simpa using hk
 have e:=of_decide_eq_true e;have hl:=AD (k:=k+1);obtain⟨t,ht⟩:=Qt (Lib.itoa ((k+1:Nat):Int))
 rw[<-ht]at e hl;have ha:Lib.atoiAll t= .ok ((k+1:Nat):Int):=by rw[ht];exact pp oma oma
 have e1:s.length=t.length+2:=by rw[e];simp
 refine⟨oma,by rw[e];rfl,?_,((k+1:Nat):Int),?_,oma,oma,by rw[<-ht];exact e⟩
 ·rw[e1,e,show t.length+2-1=t.length+1 by omega,List.getElem?_cons_succ,List.getElem?_append_right (nlr _),Nat.sub_self];rfl
 ·rw[<-ha,e1,e];congr 1;simp
theorem Ia{s:Str}{v:Int}(h1:1<=v)(h2:v<=64)(e:s=91::(Lib.itoa v++ [93])):dX s=true:=by
 unfold dX;rw[List.any_eq_true];refine⟨v.toNat-1,by simp;omega,dqt ?_⟩;rw[show ((v.toNat-1+1:Nat):Int)=v by omega];exact e
theorem SZ(s:Str)(h:JN)(hs:s.length<=1000000000)(hp:kM SG h):ACalls Tryz.prog 256 [.str s] h (.bool (dX s)) h:=by
 have hF:= @H9 s;have hM:= @Ia s;obtain⟨R,hR⟩:=Qt (dX s)
 rw[<-hR]at hF hM ⊢;have hV: ¬(R=true)->R=false:=by cases R<;>simp
 by_cases g0:s.length<3
 ·have k0:((s.length:Int)<3)=True:=eqt oma;rw[hV (λc=>by have:=(hF c).1;omega)];refine acO x6 ?_;simp (disch:=omega) only[bN,k0,go_sem]
  repeat' first|exact tS|fail
 have k0:((s.length:Int)<3)=False:=eqf oma;have k1:((0:Int)<s.length)=True:=eqt oma;have k2:((s.length:Int)-1).toNat=s.length-1:=by omega
 have k3:(0<=(s.length:Int)-1)=True:=eqt oma;have k4:((s.length:Int)-1<=s.length)=True:=eqt oma;have k5:((s.length:Int)-1<s.length)=True:=eqt oma;have k6:((1:Int)<=(s.length:Int)-1)=True:=eqt oma;obtain⟨m,hm⟩:=Qt ((s.drop 1).take (s.length-1-1))
 have hml:m.length<=s.length:=by rw[hm];simp;omega
 have em:=hm.symm;rw[em]at hF;obtain⟨a,ha⟩:=Qt ((s[0]?).getD 0)
 obtain⟨b,hb⟩:=Qt ((s[s.length-1]?).getD 0)
 have ea:=ha.symm;have eb:=hb.symm;rw[ea,eb]at hF
 by_cases g1:a.toNat=91
 case neg=>
  have q1:((a.toNat:Int)=91)=False:=eqf oma;rw[hV (λc=>g1 (hF c).2.1)];refine acO x6 ?_;simp (disch:=omega) only[bN,k0,k1,k2,k3,k4,k5,k6,em,ea,eb,q1,Int.toNat_zero,Int.toNat_one,go_sem]
  repeat' first|exact tS|with_reducible apply aiA|exact clz|fail
 have q1:((a.toNat:Int)=91)=True:=eqt oma
 by_cases g2:b.toNat=93
 case neg=>
  have q2:((b.toNat:Int)=93)=False:=eqf oma;rw[hV (λc=>g2 (hF c).2.2.1)];refine acO x6 ?_;simp (disch:=omega) only[bN,k0,k1,k2,k3,k4,k5,k6,em,ea,eb,q1,q2,Int.toNat_zero,Int.toNat_one,go_sem]
  repeat' first|exact tS|with_reducible apply aiA|exact clz|fail
 have q2:((b.toNat:Int)=93)=True:=eqt oma;have c180:=t50 m h (SG.err hp) oma;unfold X7 at c180;cases hA:Lib.atoiAll m
 case ok v=>
  rw[hA]at c180 hF;simp only at c180;obtain⟨r1,r2⟩:=ZU hA;have c181:=t48 v h (SG.pow hp) r1 r2;obtain⟨t,ht⟩:=Qt (Lib.itoa v)
  rw[<-ht]at c181
  by_cases g3:1<=v
  case neg=>
   have q3:(1<=v)=False:=eqf g3;rw[hV (λc=>by obtain⟨_,_,_,w,e,w1,_⟩:=hF c;cases e;exact g3 w1)];refine acO x6 ?_;simp (disch:=omega) only[bN,k0,k1,k2,k3,k4,k5,k6,em,ea,eb,q1,q2,Int.toNat_zero,Int.toNat_one,go_sem]
   repeat' first|(refine qj ( .str []) ?_;simp (disch:=omega) only[go_sem])|(refine cA (c180) flk ?_;simp (disch:=omega) only[q3,go_sem])|exact tS|(with_reducible first|intro _|apply aiA)|exact clz|fail
  have q3:(1<=v)=True:=eqt g3
  by_cases g4:v<=64
  case neg=>
   have q4:(v<=64)=False:=eqf g4;rw[hV (λc=>by obtain⟨_,_,_,w,e,_,w2,_⟩:=hF c;cases e;exact g4 w2)];refine acO x6 ?_;simp (disch:=omega) only[bN,k0,k1,k2,k3,k4,k5,k6,em,ea,eb,q1,q2,Int.toNat_zero,Int.toNat_one,go_sem]
   repeat' first|(refine qj ( .str []) ?_;simp (disch:=omega) only[go_sem])|(refine cA (c180) flk ?_;simp (disch:=omega) only[q3,q4,go_sem])|exact tS|with_reducible apply aiA|exact clz|fail
  have q4:(v<=64)=True:=eqt g4
  by_cases g5:s=91::(t++ [93])
  ·have q5:(s=91::(t++ [93]))=True:=eqt g5;have htl:t.length<=9:=by
    obtain⟨n,rfl⟩: ∃n:Nat,v=n:=⟨v.toNat,oma⟩
    rw[ht];exact gM oma
   rw[hM g3 g4 (by rw[<-ht];exact g5)];refine acO x6 ?_;simp (disch:=omega) only[bN,k0,k1,k2,k3,k4,k5,k6,em,ea,eb,q1,q2,Int.toNat_zero,Int.toNat_one,go_sem]
   repeat' first|((first|refine cA (c180) ?_ ?_|refine cG (λe=>c181) ?_ ?_);exact flk;simp (disch:=omega) only[q3,q4,q5,go_sem])|exact tS|with_reducible apply aiA|exact clz|fail
  ·have q5:(s=91::(t++ [93]))=False:=eqf g5;have htl:t.length<=9:=by
    obtain⟨n,rfl⟩: ∃n:Nat,v=n:=⟨v.toNat,oma⟩
    rw[ht];exact gM oma
   rw[hV (λc=>by obtain⟨_,_,_,w,e,_,_,w3⟩:=hF c;cases e;exact g5 (by rw[ht];exact w3))];refine acO x6 ?_;simp (disch:=omega) only[bN,k0,k1,k2,k3,k4,k5,k6,em,ea,eb,q1,q2,Int.toNat_zero,Int.toNat_one,go_sem]
   repeat' first|((first|refine cA (c180) ?_ ?_|refine cG (λe=>c181) ?_ ?_);exact flk;simp (disch:=omega) only[q3,q4,q5,go_sem])|exact tS|with_reducible apply aiA|exact clz|fail
 all_goals
  rw[hA]at c180 hF;simp only at c180;rw[hV (λc=>by obtain⟨_,_,_,w,e,_⟩:=hF c;cases e)];refine acO x6 ?_;simp (disch:=omega) only[bN,k0,k1,k2,k3,k4,k5,k6,em,ea,eb,q1,q2,Int.toNat_zero,Int.toNat_one,go_sem]
  repeat' first|(refine qj ( .str []) ?_;simp (disch:=omega) only[go_sem])|(refine cA (c180) flk ?_;simp (disch:=omega) only[go_sem])|exact tS|(with_reducible first|intro _|apply aiA)|exact clz|fail
theorem Nl: ∀f:Nat,f<32->ZE .i64 (f:Int) 2=if f.testBit 1 then 2 else 0:=by decide+kernel
theorem Np: ∀f:Nat,f<32->ZE .i64 (f:Int) 8=if f.testBit 3 then 8 else 0:=by decide+kernel
theorem DF: ∀f:Nat,f<32->ZE .i64 (f:Int) 10=(if f.testBit 1 then 2 else 0)+if f.testBit 3 then 8 else 0:=by decide+kernel
theorem RG(t:Tk)(f:Nat)(h:JN)(hf:t.flags=f)(hf2:f<32):ACalls Tryz.prog 258 [.agg (tkC t)] h (.bool (!np t.flags&& !mkB t.flags)) h:=by
 have e1:=DF f hf2;have eg:np t.flags=f.testBit 1:=by unfold np;rw[hf,itn]
 have ek:mkB t.flags=f.testBit 3:=by unfold mkB;rw[hf,itn]
 rw[eg,ek];cases g1:f.testBit 1<;>cases g2:f.testBit 3<;>rw[g1,g2]at e1<;>simp only[Bool.false_eq_true,if_false,if_true,Int.add_zero,Int.zero_add]at e1
 all_goals
  refine acO G3 ?_;simp (disch:=omega) only[EL,tkC,hf,e1,go_sem]
  repeat' first|exact tF|fail
structure WM (t:Tk):Prop where
 tx:t.text.length<=1000000000
 nm:t.norm.length<=1000000000
 pg:t.page.length<=1000000000
 na:t.name.length<=1000000000
end RC
end
