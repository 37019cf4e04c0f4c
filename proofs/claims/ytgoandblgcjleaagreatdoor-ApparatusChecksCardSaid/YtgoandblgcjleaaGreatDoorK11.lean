import Derived.Test.YtgoandblgcjleaaGreatDoorK10
set_option linter.all false
set_option linter.unusedSimpArgs false
set_option linter.unusedVariables false
set_option linter.unusedSectionVars false
set_option maxHeartbeats 32000000
set_option maxRecDepth 100000
section
open Go Go.Proofs AF HY LN
namespace RC
structure Va where
 words:List Str
 sigla:List Str
 deriving Inhabited
structure En where
 layer:Int
 frm:Int
 to:Int
 pos:Bool
 sup:List Str
 vars:List Va
 deriving Inhabited
def vaC(v:Va):List AV:= [strs v.words,strs v.sigla]
def qW(vs:List Va):AV:= .sl vs.length fun i=>vaC (vs.getD i default)
def enC(e:En):List AV:= [.int .i64 e.layer,.int .i64 e.frm,.int .i64 e.to,.bool e.pos,strs e.sup,qW e.vars]
def zg(l:List En):AV:= .sl l.length fun i=>enC (l.getD i default)
theorem qlB(L:List Va):(qW L).flag=true:=rfl
theorem qjg(L:List Va):(qW L).strip=qW L:=rfl
theorem qpM{fz:Nat→Bool}{h:List AObj}{n:Nat}(L:List Va):frz fz h (n+1) (qW L)=qW L:=rfl
theorem qqF{fz:Nat→Bool}{h:List AObj}{n:Nat}(L:List Va):rei fz h (n+1) (qW L)=qW L:=rfl
theorem qlx(L:List En):(zg L).flag=true:=rfl
theorem qjc(L:List En):(zg L).strip=zg L:=rfl
theorem qpJ{fz:Nat→Bool}{h:List AObj}{n:Nat}(L:List En):frz fz h (n+1) (zg L)=zg L:=rfl
theorem qqC{fz:Nat→Bool}{h:List AObj}{n:Nat}(L:List En):rei fz h (n+1) (zg L)=zg L:=rfl
attribute [go_sem] qlB qjg qpM qqF qlx qjc qpJ qqC
theorem qyp(ws:List Str)(m:Nat)(k:Nat→Str)(h:List AObj)(h1:ws.length≤1000000000)(h2:m≤1000000000):
  ACalls Tryz.prog 53 [strs ws,.sl m (fun j=> [.str (k j)])] h (.bool (decide (ws.length=m∧ ∀i,i<ws.length→ws.getD i []=k i))) h:=by
 unfold strs
 have:=qDv qCh ws.length m (fun j=> .s (ws.getD j [])) (fun j=> .s (k j)) h (fun _ _ _=>rfl) om om
 simpa only[At.v,At.s.injEq] using this
theorem qvl(ws:List Str)(m:Nat)(k:Nat→Str)(h:List AObj)(h1:ws.length≤1000000000)(h2:m≤1000000000):
  ACalls Tryz.prog 139 [strs ws,.sl m (fun j=> [.str (k j)])] h (.bool (decide (ws.length=m∧ ∀i,i<ws.length→ws.getD i []=k i))) h:=by
 have c22:=fun h=>qyp ws m k h h1 h2
 refine acO qyG ?_;simp (disch:=omega) only[qw1,go_sem]
 repeat' first
  |(refine cA (c22 _) flk ?_;simp (disch:=omega) only[go_sem])
  |(apply qe;exact rvk;simp only[go_sem];exact qk)
theorem je{α:Type}[Inhabited α]{a b:List α}(d:α):a=b↔a.length=b.length∧ ∀i,i<a.length→a.getD i d=b.getD i d:=by
 constructor
 ·rintro rfl;exact⟨rfl,fun _ _=>rfl⟩
 ·rintro⟨h1,h2⟩;apply List.ext_getElem h1;intro i h3 h4
  have:=h2 i h3
  rw[gdqA,gdqA,zp h3,zp h4]at this;exact this
def qaQ(t:List Str)(f g:Nat):List Str:=(t.drop f).take (g-f)
theorem qem{t:List Str}{f g:Nat}(h1:f≤g)(h2:g≤t.length):(qaQ t f g).length=g-f:=by unfold qaQ;simp;omega
theorem qhG{t:List Str}{f g i:Nat}(h1:f≤g)(h2:g≤t.length)(hi:i<g-f):(qaQ t f g).getD i []=t.getD (f+i) []:=by
 unfold qaQ;rw[gdqA,List.getElem?_take,ipo hi,List.getElem?_drop,←gdqA]
theorem qhD{ws t:List Str}{f g:Nat}(h1:f≤g)(h2:g≤t.length):decide (ws.length=g-f∧ ∀i,i<ws.length→ws.getD i []=t.getD (f+i) [])=decide (ws=qaQ t f g):=by
 refine decide_eq_decide.2 ?_;rw[je (b:=qaQ t f g) ([]:Str),qem h1 h2];constructor
 ·rintro⟨p,q⟩;exact⟨p,fun i hi=>by rw[q i hi,qhG h1 h2 om]⟩
 ·rintro⟨p,q⟩;exact⟨p,fun i hi=>by rw[q i hi,qhG h1 h2 om]⟩
theorem qD8(x:Va)(y:List Str)(c:AV)(h:List AObj)(h1:y.length≤1000000000)(h2:x.words.length≤1000000000):ACalls Tryz.prog 140 [.agg (vaC x),.ip [strs y,c]] h (.bool (decide (y=x.words))) h:=by
 have c117:=fun h=>qvl y x.words.length (fun j=>x.words.getD j []) h h1 h2
 have e:decide (y.length=x.words.length∧ ∀i,i<y.length→y.getD i []=x.words.getD i [])=decide (y=x.words):=decide_eq_decide.2 (je ([]:Str)).symm;rw[e]at c117;have e2:AV.sl x.words.length (fun j=> [AV.str (x.words.getD j [])])=strs x.words:=rfl;rw[e2]at c117;refine acO qyH ?_;simp (disch:=omega) only[qw2,vaC,go_sem]
 repeat' first
  |(refine cA (c117 _) flk ?_;simp (disch:=omega) only[go_sem])
  |(apply qb;exact rvk;simp only[go_sem];exact qk)
theorem qD3(n:Nat)(vs:List Va)(y:List Str)(k v:Nat)(c:AV)(h:List AObj)(hk:qA k h=some (.mem v 85 [strs y,c]))(hn:n≤vs.length)(hl:vs.length≤1000000000)(h1:y.length≤1000000000)(h2: ∀i,(vs.getD i default).words.length≤1000000000):
  ACalls Tryz.prog 56 [.sl n (fun j=>vaC (vs.getD j default)),.fn (.func 140) [] [.op k v 0]] h (.bool (zd (fun j=>decide (y=(vs.getD j default).words)) n)) h:=by
 have hc:=qQ hk;refine qo9 qCj ⟨rfl,rfl⟩ ⟨rfl,rfl⟩ (qba qyD n (fun j=>vaC (vs.getD j default)) (fun j=> .agg (vaC (vs.getD j default))) _ [] [.op k v 0] _ h (fun i _=>⟨rfl,by simp[ji,vaC],rfl,rfl,rfl⟩) (fun i _=> ?_) om);refine ACalls.borrow ?_ rfl;have e:([AV.agg (vaC (vs.getD i default))]++ [AV.op k v 0]).map (rei (fun _=>true) h 8)= [.agg (vaC (vs.getD i default)),.ip [strs y,rei (fun _=>true) h 7 c]]:=by
  simp only[lca,lna,List.map_cons,List.map_nil,rei_op,if_true,hc,ipOf_some,List.drop_zero,rei_agg];rfl
 rw[lna,e];exact qD8 _ y _ _ h1 (h2 i)
def qca(t:List Str)(e:En)(i:Nat):Int:=
 if kp (e.vars.getD i default).words≠0 then 11 else if (e.vars.getD i default).words=qaQ t e.frm.toNat e.to.toNat then 9 else
  if zd (fun j=>decide ((e.vars.getD i default).words=(e.vars.getD j default).words)) i=true then 7 else if (e.vars.getD i default).sigla.length=0 then 5 else 0
def cnt(names:List Str)(gs:List Gr)(e:En):Nat→List Int
 |0=>qcx (List.replicate 32 0) (jC names gs e.sup)
 |i+1=>qcx (cnt names gs e i) (jC names gs (e.vars.getD i default).sigla)
def qjl(C:List Int):Bool:=zd (fun i=>decide (1<C.getD i 0)) C.length
def qjC(t:List Str)(e:En):Prop:=e.layer<0∨16≤e.layer∨e.frm<0∨e.to<e.frm∨(t.length:Int)<e.to
instance (t:List Str) (e:En):Decidable (qjC t e):=by unfold qjC;infer_instance
def qol(names:List Str)(gs:List Gr)(t:List Str)(e:En):Int:=
 if sgE names gs≠0 then 1 else if 4096<t.length then 4 else if kp t≠0 then 11 else if qjC t e then 2 else
  if 0<e.sup.length∧e.pos=false then 1 else if e.vars.length=0 then 5 else
   if qaZ (qca t e) 0 e.vars.length≠0 then qaZ (qca t e) 0 e.vars.length else
    if kx names gs e.sup≠0 then kx names gs e.sup else
     if qaZ (fun i=>kx names gs (e.vars.getD i default).sigla) 0 e.vars.length≠0 then qaZ (fun i=>kx names gs (e.vars.getD i default).sigla) 0 e.vars.length else
      if qjl (cnt names gs e e.vars.length)=true then 17 else 0
structure TSz (t:List Str):Prop where
 n:t.length≤1000000000
 s: ∀j,(t.getD j []).length≤1000000000
structure ESz (e:En):Prop where
 sup:e.sup.length≤1000000000
 vs:e.vars.length≤1000000000
 w: ∀i,TSz (e.vars.getD i default).words
 sg: ∀i,(e.vars.getD i default).sigla.length≤1000000000
theorem qdL(names:List Str)(gs:List Gr)(e:En): ∀i,(cnt names gs e i).length=32:=by
 intro i
 induction i with
 |zero=>unfold cnt;rw[qcc];simp
 |succ i ih=>unfold cnt;rw[qcc,ih]
theorem qk7(names:List Str)(gs:List Gr)(e:En): ∀i j:Nat,0≤(cnt names gs e i).getD j 0∧(cnt names gs e i).getD j 0≤64*((i:Int)+1):=by
 intro i
 induction i with
 |zero=>
  intro j;unfold cnt
  have:=qdH (C:=List.replicate 32 0) (L:=jC names gs e.sup) (B:=0) (fun i=>by
   rw[gdqA,List.getElem?_replicate]
   split<;>simp) _ (nlr _) j
  rw[List.take_length]at this;have h2:= @qdR names gs e.sup;omega
 |succ i ih=>
  intro j;unfold cnt
  have:=qdH (C:=cnt names gs e i) (L:=jC names gs (e.vars.getD i default).sigla) (B:=64*((i:Int)+1)) ih _ (nlr _) j
  rw[List.take_length]at this;have h2:= @qdR names gs (e.vars.getD i default).sigla;omega
theorem _root_.AF.Wk.kill3{t:List AV}{h l:List AObj}{a b c:AObj}{v:Nat}{ty:TypeId}{cs:List AV}:Wk t (h++a::b::c:: .mem v ty cs::l) t (h++a::b::c:: .emp (v+1)::l):=by
 have:=Wk.kill0 (t:=t) (h:=h++ [a,b,c]) (l:=l) (v:=v) (ty:=ty) (cs:=cs)
 simpa using this
theorem qD6(names:List Str)(gs:List Gr)(t:List Str)(e:En)(h:List AObj)(hz:Szs names gs)(ht:TSz t)(he:ESz e)(hp:qag SG h):
  ACalls Tryz.prog 65 [strs names,qu gs,strs t,.agg (enC e)] h (.int .i64 (qol names gs t e)) h:=by
 have c59:=fun h=>sgP names gs h hz
 have cw:=fun l=>qDP t (h++l) ht.n ht.s (hp.app l)
 have t1:=ht.n;obtain⟨R,hR⟩: ∃R,R=qol names gs t e:=⟨_,rfl⟩
 rw[←hR];unfold qol at hR;obtain⟨s,hs⟩: ∃s,s=sgE names gs:=⟨_,rfl⟩
 rw[←hs]at c59 hR;obtain⟨w,hw⟩: ∃w,w=kp t:=⟨_,rfl⟩
 rw[←hw]at cw hR
 by_cases g0:s≠0
 ·have k0:(s=0)=False:=eqf g0;rw[ipo g0]at hR;rw[hR];refine acO qb5 ?_;simp (disch:=omega) only[qhZ,enC,go_sem]
  repeat' first
   |(refine cA (c59 _) flk ?_;simp (disch:=omega) only[k0,go_sem])
   |(apply qb;exact rvk;simp only[go_sem];exact qk)
 have g0:s=0:=Classical.not_not.1 g0;have k0:(s=0)=True:=eqt g0;rw[ine (fun hc=>hc g0)]at hR
 by_cases g1:4096<t.length
 ·have k1:((4096:Int)<t.length)=True:=eqt om;rw[ipo g1]at hR;rw[hR];refine acO qb5 ?_;simp (disch:=omega) only[qhZ,enC,strs,go_sem];unfold strs at c59
  repeat' first
   |(refine cA (c59 _) flk ?_;simp (disch:=omega) only[k0,k1,go_sem])
   |(apply qb;exact rvk;simp only[go_sem];exact qk)
 have k1:((4096:Int)<t.length)=False:=eqf om;rw[ine g1]at hR;unfold strs at c59 cw
 by_cases g2:w≠0
 ·have k2:(w=0)=False:=eqf g2;rw[ipo g2]at hR;rw[hR];refine acO qb5 ?_;simp (disch:=omega) only[qhZ,enC,strs,go_sem]
  repeat' first
   |((first|refine cA (c59 _) ?_ ?_|refine cA (cw _) ?_ ?_);exact flk;simp (disch:=omega) only[k0,k1,k2,go_sem])
   |(apply qb;exact rvk;simp only[go_sem];exact qk)
 have g2:w=0:=Classical.not_not.1 g2;have k2:(w=0)=True:=eqt g2;rw[ine (fun hc=>hc g2)]at hR
 by_cases g3:qjC t e
 ·rw[ipo g3]at hR;rw[hR]
  by_cases a1:e.layer<0
  ·have q1:(e.layer<0)=True:=eqt a1;refine acO qb5 ?_;simp (disch:=omega) only[qhZ,enC,strs,go_sem]
   repeat' first
    |((first|refine cA (c59 _) ?_ ?_|refine cA (cw _) ?_ ?_);exact flk;simp (disch:=omega) only[k0,k1,k2,q1,go_sem])
    |(apply qb;exact rvk;simp only[go_sem];exact qk)
  have q1:(e.layer<0)=False:=eqf a1
  by_cases a2:16≤e.layer
  ·have q2:(16≤e.layer)=True:=eqt a2;refine acO qb5 ?_;simp (disch:=omega) only[qhZ,enC,strs,go_sem]
   repeat' first
    |((first|refine cA (c59 _) ?_ ?_|refine cA (cw _) ?_ ?_);exact flk;simp (disch:=omega) only[k0,k1,k2,q1,q2,go_sem])
    |(apply qb;exact rvk;simp only[go_sem];exact qk)
  have q2:(16≤e.layer)=False:=eqf a2
  by_cases a3:e.frm<0
  ·have q3:(e.frm<0)=True:=eqt a3;refine acO qb5 ?_;simp (disch:=omega) only[qhZ,enC,strs,go_sem]
   repeat' first
    |((first|refine cA (c59 _) ?_ ?_|refine cA (cw _) ?_ ?_);exact flk;simp (disch:=omega) only[k0,k1,k2,q1,q2,q3,go_sem])
    |(apply qb;exact rvk;simp only[go_sem];exact qk)
  have q3:(e.frm<0)=False:=eqf a3
  by_cases a4:e.to<e.frm
  ·have q4:(e.to<e.frm)=True:=eqt a4;refine acO qb5 ?_;simp (disch:=omega) only[qhZ,enC,strs,go_sem]
   repeat' first
    |((first|refine cA (c59 _) ?_ ?_|refine cA (cw _) ?_ ?_);exact flk;simp (disch:=omega) only[k0,k1,k2,q1,q2,q3,q4,go_sem])
    |(apply qb;exact rvk;simp only[go_sem];exact qk)
  have q4:(e.to<e.frm)=False:=eqf a4;have q5:((t.length:Int)<e.to)=True:=eqt (by unfold qjC at g3;omega);refine acO qb5 ?_;simp (disch:=omega) only[qhZ,enC,strs,go_sem]
  repeat' first
   |((first|refine cA (c59 _) ?_ ?_|refine cA (cw _) ?_ ?_);exact flk;simp (disch:=omega) only[k0,k1,k2,q1,q2,q3,q4,q5,go_sem])
   |(apply qb;exact rvk;simp only[go_sem];exact qk)
 rw[ine g3]at hR;unfold qjC at g3;have q1:(e.layer<0)=False:=eqf om;have q2:(16≤e.layer)=False:=eqf om;have q3:(e.frm<0)=False:=eqf om;have q4:(e.to<e.frm)=False:=eqf om;have q5:((t.length:Int)<e.to)=False:=eqf om
 by_cases g4:0<e.sup.length∧e.pos=false
 ·have q6:((0:Int)<e.sup.length)=True:=eqt om;have q7:=g4.2;rw[ipo g4]at hR;rw[hR];refine acO qb5 ?_;simp (disch:=omega) only[qhZ,enC,strs,q7,go_sem]
  repeat' first
   |((first|refine cA (c59 _) ?_ ?_|refine cA (cw _) ?_ ?_);exact flk;simp (disch:=omega) only[k0,k1,k2,q1,q2,q3,q4,q5,q6,go_sem])
   |(apply qb;exact rvk;simp only[go_sem];exact qk)
 rw[ine g4]at hR
 by_cases g5:e.vars.length=0
 ·have q8:((e.vars.length:Int)=0)=True:=eqt om;rw[ipo g5]at hR;rw[hR]
  by_cases g6:0<e.sup.length
  ·have q6:((0:Int)<e.sup.length)=True:=eqt om;have q7:e.pos=true:=by
    cases hq:e.pos with
    |true=>rfl
    |false=>exact absurd ⟨g6,hq⟩ g4
   refine acO qb5 ?_;simp (disch:=omega) only[qhZ,enC,strs,qW,q7,go_sem]
   repeat' first
    |((first|refine cA (c59 _) ?_ ?_|refine cA (cw _) ?_ ?_);exact flk;simp (disch:=omega) only[k0,k1,k2,q1,q2,q3,q4,q5,q6,q8,go_sem])
    |(apply qb;exact rvk;simp only[go_sem];exact qk)
    |with_reducible apply aiA
   all_goals try exact clz
  ·have q6:((0:Int)<e.sup.length)=False:=eqf om;refine acO qb5 ?_;simp (disch:=omega) only[qhZ,enC,strs,qW,go_sem]
   repeat' first
    |((first|refine cA (c59 _) ?_ ?_|refine cA (cw _) ?_ ?_);exact flk;simp (disch:=omega) only[k0,k1,k2,q1,q2,q3,q4,q5,q6,q8,go_sem])
    |(apply qb;exact rvk;simp only[go_sem];first|exact qk|apply qh)
    |with_reducible first|intro _|apply aiA
   all_goals try exact clz
 have q8:((e.vars.length:Int)=0)=False:=eqf om;rw[ine g5]at hR;obtain⟨C0,hC0⟩: ∃C0:List AV,C0= [.int .i64 e.layer,.int .i64 e.frm,.int .i64 e.to,.bool e.pos,strs e.sup,qW e.vars]:=⟨_,rfl⟩
 obtain⟨fr,hfr⟩: ∃fr:Nat,e.frm=fr:=⟨e.frm.toNat,om⟩
 obtain⟨tt,htt⟩: ∃tt:Nat,e.to=tt:=⟨e.to.toNat,om⟩
 obtain⟨E1,hE1⟩: ∃E1:AObj,E1= .mem 1 58 [.int .i64 e.layer,.int .i64 e.frm,.int .i64 e.to,.bool e.pos,strs e.sup,qW e.vars]:=⟨_,rfl⟩
 refine acO qb5 ?_;simp (disch:=omega) only[qhZ,enC,strs,qW,go_sem]
 repeat' first
  |((first|refine cA (c59 _) ?_ ?_|refine cA (cw _) ?_ ?_);exact flk;simp (disch:=omega) only[k0,k1,k2,q1,q2,q3,q4,q5,q8,go_sem])
  |(apply qb;exact rvk;simp only[go_sem];apply qh)
  |with_reducible first|intro _|apply aiA
 all_goals try exact clz
 ·rename_i hx;exact absurd ⟨om,hx.2⟩ g4
 refine qn (T:=fun i:Nat×Nat=>qI 134 [(0,strs names),(1,qu gs),(2,strs t),(7,.op h.length 1 0),(73,qW e.vars),(74,.int .i64 e.vars.length),(75,.int .i64 i.1)])
  (H:=fun i=>h++ [.mem 1 58 [.int .i64 e.layer,.int .i64 e.frm,.int .i64 e.to,.bool e.pos,strs e.sup,qW e.vars],.emp i.2,.emp 0,.emp 0])
  (inv:=fun i=>i.1≤e.vars.length∧ ∀j,j<i.1→qca t e j=0) (m:=fun i=>e.vars.length-i.1) (0,0) ⟨nzl _,fun j hj=>absurd hj (nnz j)⟩ (Wk.temps ?_) ?_
 ·(simp only[strs,qW,go_sem,qj,qd,qa,qi];try (repeat' first|(with_reducible apply aiA)|(apply qh;omega)|(apply qg;rfl)|exact qk))
 rintro⟨i,v⟩ ⟨i1,i2⟩ K hK;simp only at i1 i2 hK;have z2:=he.vs
 by_cases hi:i<e.vars.length
 ·have r1:((i:Int)<e.vars.length)=True:=eqt om;have r2:((i:Int)≤e.vars.length)=True:=eqt om;have r3:(0≤(fr:Int))=True:=eqt om;have r4:((fr:Int)≤tt)=True:=eqt om;have r5:((tt:Int)≤t.length)=True:=eqt om;have hE:=qO (f:=qca t e) hi i2;have hv:qca t e i=if kp (e.vars.getD i default).words≠0 then 11 else if (e.vars.getD i default).words=qaQ t e.frm.toNat e.to.toNat then 9 else
   if zd (fun j=>decide ((e.vars.getD i default).words=(e.vars.getD j default).words)) i=true then 7 else if (e.vars.getD i default).sigla.length=0 then 5 else 0:=rfl
  have zw:=he.w i;have zs:=he.sg i;have zv:=fun j=>(he.w j).n
  obtain⟨x,hx⟩: ∃x,x=e.vars.getD i default:=⟨_,rfl⟩
  have ex:=hx.symm;simp only[ex]at hv zw zs;rw[hfr,htt,itn,itn]at hv;have zn:=zw.n;have c116:=fun l=>qDP x.words (h++l) zw.n zw.s (hp.app l)
  have c117:=fun h=>qvl x.words (tt-fr) (fun j=>t.getD (fr+j) []) h zw.n om
  rw[qhD om om]at c117;have c118:=qD3 i e.vars x.words (h.length+1) (v+1) (strs x.sigla) (h++ [.mem 1 58 [.int .i64 e.layer,.int .i64 e.frm,.int .i64 e.to,.bool e.pos,strs e.sup,qW e.vars],.mem (v+1) 85 [strs x.words,strs x.sigla],.emp 0,.emp 0]) (by rw[getO_app];rfl) om z2 zw.n zv;obtain⟨u,hu⟩: ∃u,u=kp x.words:=⟨_,rfl⟩
  rw[←hu]at c116 hv;unfold strs qW at c118;unfold strs at c116 c117
  by_cases a1:u≠0
  ·have p1:(u=0)=False:=eqf a1;rw[ipo a1]at hv;have hE:=hE (by rw[hv];decide);rw[hE,hv,ipo (by decide)]at hR;rw[hR];simp (disch:=omega) only[strs,qW,vaC,r1,ex,go_sem]
   repeat' first
    |(refine cA (c116 _) flk ?_;simp (disch:=omega) only[p1,go_sem])
    |(apply qb;exact rvk;simp only[go_sem];exact qk)
    |with_reducible apply aiA
   all_goals try exact clz
  have a1:u=0:=Classical.not_not.1 a1;have p1:(u=0)=True:=eqt a1;rw[ine (fun hc=>hc a1)]at hv
  by_cases a2:x.words=qaQ t fr tt
  ·rw[dqt a2]at c117;rw[ipo a2]at hv;have hE:=hE (by rw[hv];decide);rw[hE,hv,ipo (by decide)]at hR;rw[hR];simp (disch:=omega) only[strs,qW,vaC,r1,ex,go_sem]
   repeat' first
    |((first|refine cA (c116 _) ?_ ?_|refine cA (c117 _) ?_ ?_);exact flk;simp (disch:=omega) only[r2,p1,hfr,htt,r3,r4,r5,go_sem])
    |(apply qb;exact rvk;simp only[go_sem];exact qk)
    |with_reducible apply aiA
   all_goals try exact clz
  rw[dqf a2]at c117;rw[ine a2]at hv;cases a3:zd (fun j=>decide (x.words=(e.vars.getD j default).words)) i with
  |true=>
   rw[a3]at c118;rw[ipo a3]at hv;have hE:=hE (by rw[hv];decide);rw[hE,hv,ipo (by decide)]at hR;rw[hR];simp only[hfr,htt]at c118;simp (disch:=omega) only[strs,qW,vaC,r1,ex,hfr,htt,go_sem]
   repeat' first
    |((first|refine cA (c116 _) ?_ ?_|refine cA (c117 _) ?_ ?_|refine cA (c118) ?_ ?_);exact flk;simp (disch:=omega) only[r2,p1,r3,r4,r5,Nat.sub_zero,Nat.zero_add,go_sem])
    |(apply qb;exact rvk;simp only[go_sem];exact qk)
    |with_reducible apply aiA
   all_goals try exact clz
  |false=>
  rw[a3]at c118;rw[ine (by rw[a3];simp)]at hv;simp only[hfr,htt]at c118
  by_cases a4:x.sigla.length=0
  ·have p4:((x.sigla.length:Int)=0)=True:=eqt om;rw[ipo a4]at hv;have hE:=hE (by rw[hv];decide);rw[hE,hv,ipo (by decide)]at hR;rw[hR];simp (disch:=omega) only[strs,qW,vaC,r1,ex,hfr,htt,go_sem]
   repeat' first
    |((first|refine cA (c116 _) ?_ ?_|refine cA (c117 _) ?_ ?_|refine cA (c118) ?_ ?_);exact flk;simp (disch:=omega) only[r2,p1,p4,r3,r4,r5,Nat.sub_zero,Nat.zero_add,go_sem])
    |(apply qb;exact rvk;simp only[go_sem];exact qk)
    |with_reducible apply aiA
   all_goals try exact clz
  ·have p4:((x.sigla.length:Int)=0)=False:=eqf om;rw[ine a4]at hv;simp (disch:=omega) only[strs,qW,vaC,r1,ex,hfr,htt,go_sem]
   repeat' first
    |((first|refine cA (c116 _) ?_ ?_|refine cA (c117 _) ?_ ?_|refine cA (c118) ?_ ?_);exact flk;simp (disch:=omega) only[r2,p1,p4,r3,r4,r5,Nat.sub_zero,Nat.zero_add,go_sem])
    |with_reducible apply aiA
   all_goals try exact clz
   simp only[hfr,htt]at hK;refine hK _ _ (i+1,v+1+1) ⟨hi,fun j hj=> ?_⟩ (by simp only;omega) (Wk.trans Wk.kill1 (Wk.temps ?_))
   ·by_cases e':j=i
    ·subst e';exact hv
    ·exact i2 j (by simp only at hj;omega)
   ·(simp only[strs,qW,go_sem,qj,qd,qa,qi];try (repeat' first|(with_reducible apply aiA)|(apply qh;omega)|(apply qg;rfl)|exact qk))
 have r1:((i:Int)<e.vars.length)=False:=eqf om;rw[ine (fun hc=>hc (qz (f:=qca t e) (fun j hj=>i2 j om)))]at hR;simp (disch:=omega) only[strs,qW,r1,go_sem];refine cE (qB5 names gs e.sup (List.replicate 32 0) (h.length+2) 1 174 _ hz he.sup (by rw[getO_app];rfl) (by simp) 0 (by decide) (fun i=>by
  rw[gdqA,List.getElem?_replicate]
  split<;>simp)) (by exact flk) ?_
 have c0:qcx (List.replicate 32 0) (jC names gs e.sup)=cnt names gs e 0:=rfl;rw[c0];obtain⟨y,hy⟩: ∃y,y=kx names gs e.sup:=⟨_,rfl⟩
 rw[←hy]at hR ⊢
 by_cases b1:y≠0
 ·have p1:(y=0)=False:=eqf b1;rw[ipo b1]at hR;rw[hR];simp (disch:=omega) only[strs,qW,p1,go_sem]
  repeat' first
   |(apply qb;exact rvk;simp only[go_sem];exact qk)
 have b1:y=0:=Classical.not_not.1 b1;have p1:(y=0)=True:=eqt b1;rw[ine (fun hc=>hc b1)]at hR;simp (disch:=omega) only[strs,qW,p1,go_sem]
 repeat' first
  |with_reducible apply aiA
 all_goals try exact clz
 refine qn (T:=fun i:Nat×Nat=>qI 134 [(0,strs names),(1,qu gs),(11,.op (h.length+2) 1 0),(117,qW e.vars),(118,.int .i64 e.vars.length),(119,.int .i64 i.1)])
  (H:=fun i=>h++ [.mem 1 58 [.int .i64 e.layer,.int .i64 e.frm,.int .i64 e.to,.bool e.pos,strs e.sup,qW e.vars],.emp v,.mem 1 174 (qp (cnt names gs e i.1)),.emp i.2])
  (inv:=fun i=>i.1≤e.vars.length∧ ∀j,j<i.1→kx names gs (e.vars.getD j default).sigla=0) (m:=fun i=>e.vars.length-i.1) (0,0) ⟨nzl _,fun j hj=>absurd hj (nnz j)⟩ (Wk.temps ?_) ?_
 ·(simp only[strs,qW,go_sem,qj,qd,qa,qi];try (repeat' first|(with_reducible apply aiA)|(apply qh;omega)|(apply qg;rfl)|exact qk))
 clear hK;rintro⟨n,w'⟩ ⟨n1,n2⟩ K hK;simp only at n1 n2 hK
 by_cases hn:n<e.vars.length
 ·have r2:((n:Int)<e.vars.length)=True:=eqt om;have hE:=qO (f:=fun i=>kx names gs (e.vars.getD i default).sigla) hn n2;have zs:=he.sg n;have hcs:cnt names gs e (n+1)=qcx (cnt names gs e n) (jC names gs (e.vars.getD n default).sigla):=rfl;have hbn:=qk7 names gs e n;have hln:=qdL names gs e n;obtain⟨D,hD⟩: ∃D,D=cnt names gs e n:=⟨_,rfl⟩
  have eD:=hD.symm;rw[eD]at hcs hbn hln;obtain⟨x,hx⟩: ∃x,x=e.vars.getD n default:=⟨_,rfl⟩
  have ex:=hx.symm;simp only[ex]at hE hcs zs;simp (disch:=omega) only[strs,qW,vaC,r2,ex,eD,go_sem]
  repeat' first
   |with_reducible apply aiA
  all_goals try exact clz
  refine cE (qB5 names gs x.sigla D (h.length+2) 1 174 _ hz zs (by rw[getO_app];rfl) hln (64*((n:Int)+1)) om hbn) (by exact flk) ?_;rw[←hcs];obtain⟨q,hq⟩: ∃q,q=kx names gs x.sigla:=⟨_,rfl⟩
  rw[←hq]at hE ⊢
  by_cases b2:q≠0
  ·have p2:(q=0)=False:=eqf b2;rw[hE b2,ipo b2]at hR;rw[hR];simp (disch:=omega) only[strs,qW,p2,go_sem]
   repeat' first
    |(apply qb;exact rvk;simp only[go_sem];exact qk)
  ·have b2:q=0:=Classical.not_not.1 b2;have p2:(q=0)=True:=eqt b2;simp (disch:=omega) only[strs,qW,p2,go_sem];refine hK _ _ (n+1,w'+1+1) ⟨hn,fun j hj=> ?_⟩ (by simp only;omega) (Wk.trans (Wk.kill3 ) (Wk.temps ?_))
   ·by_cases e':j=n
    ·subst e';rw[ex,←hq,b2]
    ·exact n2 j (by simp only at hj;omega)
   ·(simp only[strs,qW,go_sem,qj,qd,qa,qi];try (repeat' first|(with_reducible apply aiA)|(apply qh;omega)|(apply qg;rfl)|exact qk))
 ·have r2:((n:Int)<e.vars.length)=False:=eqf om;have e':n=e.vars.length:=by omega
  subst e';rw[ine (fun hc=>hc (qz (f:=fun i=>kx names gs (e.vars.getD i default).sigla) (fun j hj=>n2 j hj)))]at hR;have hln:=qdL names gs e e.vars.length;unfold qjl at hR;rw[hln]at hR;have c94:=fun h=>twP (cnt names gs e e.vars.length) h hln
  rw[hln]at c94;obtain⟨D,hD⟩: ∃D,D=cnt names gs e e.vars.length:=⟨_,rfl⟩
  have eD:=hD.symm;simp only[eD]at hR hln c94;have fT:List.take 32 (qp D)=List.map (fun n=>AV.int .i64 n) D:=ltl (by rw[qy];omega);have fL:=qy D;rw[hln]at fL;cases b3:zd (fun i=>decide (1<D.getD i 0)) 32 with
  |true=>
   rw[b3]at c94 hR;rw[ipo rfl]at hR;rw[hR];simp (disch:=omega) only[strs,qW,r2,eD,fT,fL,go_sem]
   repeat' first
    |(refine cA (c94 _) flk ?_;simp (disch:=omega) only[go_sem])
    |(apply qb;exact rvk;simp only[go_sem];exact qk)
  |false=>
   rw[b3]at c94 hR;rw[ine (by simp)]at hR;rw[hR];simp (disch:=omega) only[strs,qW,r2,eD,fT,fL,go_sem]
   repeat' first
    |(refine cA (c94 _) flk ?_;simp (disch:=omega) only[go_sem])
    |(apply qb;exact rvk;simp only[go_sem];exact qk)
def tC(gs:List Gr)(i:Nat):List AV:=(List.range i).map fun j=> .str (gs.getD j default).name
theorem qvz(gs:List Gr)(i:Nat):tC gs (i+1)=tC gs i++ [.str (gs.getD i default).name]:=by unfold tC;rw[List.range_succ,List.map_append];rfl
theorem qsB(gs:List Gr)(i:Nat):(tC gs i).length=i:=by simp[tC]
theorem qCV{gs:List Gr}{n j:Nat}(h:j<n):((tC gs n).drop j).take 1= [.str (gs.getD j default).name]:=by
 rw[List.drop_eq_getElem_cons (by rw[qsB];exact h),List.take_succ_cons,List.take_zero];simp[tC]
set_option maxHeartbeats 2000000 in
theorem qDO(n:Nat)(gs:List Gr)(h:List AObj)(hn:n≤1000000000):ACalls Tryz.prog 167 [.sl n fun j=>grC (gs.getD j default)] h (.sl n fun j=> [.str (gs.getD j default).name]) h:=by
 refine acO qyP ?_;simp (disch:=omega) only[qxa,go_sem];have eM:qS [AV.str []] 0=tC gs 0:=rfl;rw[eM];refine qn (T:=fun i:Nat×Nat×Nat=>qI 21 [(0,.sl n fun j=>grC (gs.getD j default)),(3,.osl (h.length+1) i.2.1 1 0 i.1),(4,.int .i64 i.1)]) (H:=fun i=>h++ [.emp 1,AObj.mem i.2.1 9 (tC gs i.1),.emp i.2.2,.emp 0])
  (inv:=fun i=>i.1≤n) (m:=fun i=>n-i.1) (0,1,0) (nzl _) (Wk.temps ?_) ?_
 ·(simp only[go_sem,qj,qd,qa,qi];try (repeat' first|(with_reducible apply aiA)|(apply qh;omega)|(apply qg;rfl)|exact qk))
 rintro⟨i,v,w⟩ i1 K hK;simp only at i1 hK;have hst:=qvz gs i;have hln:=qsB gs i;obtain⟨L,hL⟩: ∃L,L=tC gs i:=⟨_,rfl⟩
 rw[←hL]at hst hln;have eL:=hL.symm
 by_cases hi:i<n
 ·have k1:((i:Int)<n)=True:=eqt om;obtain⟨g,hg⟩: ∃g,g=gs.getD i default:=⟨_,rfl⟩
  have eg:=hg.symm;rw[eg]at hst;have eT:List.take i L=L:=ltl om;simp (disch:=omega) only[grC,k1,eL,eg,Nat.mul_one,go_sem]
  repeat' first
   |with_reducible apply aiA
  all_goals try exact clz
  rw[eT,←hst];refine hK _ _ (i+1,v+1,w+1+1) hi (by simp only;omega) (Wk.trans Wk.kill2 ?_);refine Wk.temps ?_
  (simp only[go_sem,qj,qd,qa,qi];try (repeat' first|(with_reducible apply aiA)|(apply qh;omega)|(apply qg;rfl)|exact qk))
 ·have k1:((i:Int)<n)=False:=eqf om;obtain rfl:i=n:=by omega
  simp (disch:=omega) only[k1,eL,go_sem]
  repeat' first
   |(apply qb;exact rvk;simp only[go_sem])
  rw[ipo om];refine VLe.sl_eq rfl (fun j hj=> ?_);rw[hL,qCV hj];rfl
theorem qhj(p:Nat→Bool)(n:Nat):(zd p n=true∧ ∃k:Int,0≤k∧j8 p n 0=k)∨(zd p n=false∧j8 p n 0= -1):=by
 rcases zy p n with⟨i,h1,h2,_,h4⟩|⟨h1,h2⟩
 ·exact .inl ⟨qG.2 ⟨i,h1,h2⟩,_,om,h4⟩
 ·exact .inr ⟨qo.2 h1,h2⟩
set_option maxHeartbeats 4000000 in
theorem sgR(names:List Str)(gs:List Gr)(h:List AObj)(hz:Szs names gs):ACalls Tryz.prog 98 [strs names,qu gs] h (.int .i64 (sgE names gs)) h:=by
 obtain⟨z1,z2,z3,z4,z5⟩:=hz;obtain⟨R,hR⟩: ∃R,R=sgE names gs:=⟨_,rfl⟩
 rw[←hR];unfold sgE at hR
 by_cases g0:32<names.length
 ·have k0:((32:Int)<names.length)=True:=eqt om;rw[ipo g0]at hR;rw[hR];refine acO qzT ?_;simp (disch:=omega) only[qBX,strs,qu,k0,go_sem]
  repeat' first
   |(apply qe;exact rvk;simp only[go_sem];exact qk)
 have k0:((32:Int)<names.length)=False:=eqf om;rw[ine g0]at hR;refine acO qzT ?_;simp (disch:=omega) only[qBX,strs,qu,k0,go_sem];refine qn (T:=fun i:Nat=>qI 87 [(0,strs names),(1,qu gs),(5,.int .i64 i)]) (H:=fun _=>h) (inv:=fun i=>i≤names.length∧ ∀j,j<i→jm names j=0) (m:=fun i=>names.length-i) 0 ⟨nzl _,fun j hj=>by omega⟩ (Wk.temps ?_) ?_
 ·(simp only[strs,qu,go_sem,qj,qd,qa,qi];try (repeat' first|(with_reducible apply aiA)|(apply qh;omega)|(apply qg;rfl)|exact qk))
 rintro i ⟨i1,i2⟩ K hK
 by_cases hi:i<names.length
 ·have k1:((i:Int)<names.length)=True:=eqt om;have k2:((i:Int)≤names.length)=True:=eqt om;have hE:=qO (f:=jm names) hi i2;have hs:jm names i=if qiS (names.getD i [])=false then 14 else if zd (fun j=>decide (names.getD i []=names.getD j [])) i=true then 7 else 0:=rfl
  have c87:=fun h=>qCR (names.getD i []) h (z3 i)
  have c88:=fun h=>qiK i (fun j=>names.getD j []) (names.getD i []) h om
  obtain⟨s,hsx⟩: ∃s,s=names.getD i []:=⟨_,rfl⟩
  have es:=hsx.symm;rw[es]at hs c87;simp only[es]at hs c88;cases g1:qiS s with
  |false=>
   rw[g1]at c87;rw[ipo g1]at hs;have hV:R=14:=by rw[hR,hE (by rw[hs];decide),hs];rfl
   rw[hV];simp (disch:=omega) only[strs,qu,k1,es,go_sem]
   repeat' first
    |(refine cA (c87 _) flk ?_;simp (disch:=omega) only[k1,k2,es,go_sem])
    |(apply qe;exact rvk;simp only[go_sem];exact qk)
    |with_reducible apply aiA
   all_goals try exact clz
  |true=>
  rw[g1]at c87;rw[ine (by rw[g1];simp)]at hs;rcases qhj (fun j=>decide (s=names.getD j [])) i with⟨g2,n,hn0,g3⟩|⟨g2,g3⟩
  ·rw[g3]at c88;rw[ipo g2]at hs;have k3:((0:Int)≤n)=True:=eqt hn0;have hV:R=7:=by rw[hR,hE (by rw[hs];decide),hs];rfl
   rw[hV];simp (disch:=omega) only[strs,qu,k1,es,go_sem]
   repeat' first
    |((first|refine cA (c87 _) ?_ ?_|refine cA (c88 _) ?_ ?_);exact flk;simp (disch:=omega) only[k1,k2,es,Nat.sub_zero,k3,go_sem])
    |(apply qe;exact rvk;simp only[go_sem];exact qk)
    |with_reducible apply aiA
   all_goals try exact clz
  ·rw[g3]at c88;rw[ine (by rw[g2];simp)]at hs;simp (disch:=omega) only[strs,qu,k1,es,go_sem]
   repeat' first
    |((first|refine cA (c87 _) ?_ ?_|refine cA (c88 _) ?_ ?_);exact flk;simp (disch:=omega) only[k1,k2,es,Nat.sub_zero,go_sem])
    |(apply qe;exact rvk;simp only[go_sem];apply qh)
    |with_reducible first|intro _|apply aiA
   all_goals try exact clz
   refine hK _ _ (i+1) ⟨hi,fun j hj=> ?_⟩ om (Wk.temps ?_)
   ·by_cases e:j=i
    ·subst e;exact hs
    ·exact i2 j om
   ·(simp only[strs,qu,go_sem,qj,qd,qa,qi];try (repeat' first|(with_reducible apply aiA)|(apply qh;omega)|(apply qg;rfl)|exact qk))
 have k1:((i:Int)<names.length)=False:=eqf om;have hn0:=qz (f:=jm names) (fun j (hj:j<names.length)=>i2 j om);rw[ine (fun hc=>hc hn0)]at hR
 by_cases g1:16<gs.length
 ·have k2:((16:Int)<gs.length)=True:=eqt om;rw[ipo g1]at hR;rw[hR];simp (disch:=omega) only[strs,qu,k1,k2,go_sem]
  repeat' first
   |(apply qe;exact rvk;simp only[go_sem];exact qk)
 have k2:((16:Int)<gs.length)=False:=eqf om;rw[ine g1]at hR;simp (disch:=omega) only[strs,qu,k1,k2,go_sem];refine qn (T:=fun i:Nat=>qI 87 [(0,strs names),(1,qu gs),(6,.int .i64 i)]) (H:=fun i=>h) (inv:=fun i=>i≤gs.length∧ ∀j,j<i→qdT names gs j=0) (m:=fun i=>gs.length-i) 0 ⟨nzl _,fun j hj=>absurd hj (nnz j)⟩ (Wk.temps ?_) ?_
 ·(simp only[strs,qu,go_sem,qj,qd,qa,qi];try (repeat' first|(with_reducible apply aiA)|(apply qh;omega)|(apply qg;rfl)|exact qk))
 rintro i ⟨i1,i2⟩ K hK
 by_cases hi:i<gs.length
 ·have k3:((i:Int)<gs.length)=True:=eqt om;have k4:((i:Int)≤gs.length)=True:=eqt om;have hE:=qO (f:=qdT names gs) hi i2;have hs:qdT names gs i=if jp (gs.getD i default).name=false then 14 else if zd (fun j=>decide ((gs.getD i default).name=names.getD j [])) names.length=true then 7 else
   if zd (fun j=>decide ((gs.getD i default).name=(gs.getD j default).name)) i=true then 7 else if (gs.getD i default).mem.length=0 then 5 else qai names.length (gs.getD i default).mem:=rfl
  have z4i:=z4 i;have z5i:=z5 i;obtain⟨g,hg⟩: ∃g,g=gs.getD i default:=⟨_,rfl⟩
  have eg:=hg.symm;simp only[eg]at hs z4i z5i;have c89:=fun h=>t53 g.name h z4i
  have c88:=fun h=>qiK names.length (fun j=>names.getD j []) g.name h z1
  have c90:=fun h=>qDO i gs h om
  have c91:=fun h=>qiK i (fun j=>(gs.getD j default).name) g.name h om
  have c92:=fun h=>qDH g.mem names.length h z5i
  cases g2:jp g.name with
  |false=>
   rw[g2]at c89;rw[ipo g2]at hs;have hV:R=14:=by rw[hR,hE (by rw[hs];decide),hs]
   rw[hV];simp (disch:=omega) only[strs,qu,grC,ql,k3,eg,go_sem]
   repeat' first
    |(refine cA (c89 _) flk ?_;simp (disch:=omega) only[k3,eg,go_sem])
    |(apply qe;exact rvk;simp only[go_sem];exact qk)
    |with_reducible apply aiA
   all_goals try exact clz
  |true=>
  rw[g2]at c89;rw[ine (by rw[g2];simp)]at hs;rcases qhj (fun j=>decide (g.name=names.getD j [])) names.length with⟨g3,n,hn0,g3'⟩|⟨g3,g3'⟩
  ·rw[g3']at c88;rw[ipo g3]at hs;have k5:((0:Int)≤n)=True:=eqt hn0;have hV:R=7:=by rw[hR,hE (by rw[hs];decide),hs]
   rw[hV];simp (disch:=omega) only[strs,qu,grC,ql,k3,eg,go_sem]
   repeat' first
    |(refine qm ( .nl) ?_;simp (disch:=omega) only[k3,eg,go_sem])
    |((first|refine cA (c89 _) ?_ ?_|refine cA (c88 _) ?_ ?_);exact flk;simp (disch:=omega) only[k3,k4,eg,k5,go_sem])
    |(apply qe;exact rvk;simp only[go_sem];exact qk)
    |with_reducible apply aiA
   all_goals try exact clz
  rw[g3']at c88;rw[ine (by rw[g3];simp)]at hs;rcases qhj (fun j=>decide (g.name=(gs.getD j default).name)) i with⟨g4,n,hn0,g4'⟩|⟨g4,g4'⟩
  ·rw[g4']at c91;rw[ipo g4]at hs;have k5:((0:Int)≤n)=True:=eqt hn0;have hV:R=7:=by rw[hR,hE (by rw[hs];decide),hs]
   rw[hV];simp only[grC,ql]at c90;simp (disch:=omega) only[strs,qu,grC,ql,k3,eg,go_sem]
   repeat' first
    |((first|refine cA (c89 _) ?_ ?_|refine cA (c88 _) ?_ ?_|refine cG (fun e=>c90 _) ?_ ?_|refine cG (fun e=>c91 _) ?_ ?_);exact flk;simp (disch:=omega) only[k3,k4,eg,Nat.sub_zero,k5,go_sem])
    |(apply qe;exact rvk;simp only[go_sem];first|exact qk|apply qh)
    |with_reducible first|intro _|apply aiA
   all_goals try exact clz
  rw[g4']at c91;rw[ine (by rw[g4];simp)]at hs;simp only[grC,ql]at c90
  by_cases g5:g.mem.length=0
  ·have k5:((g.mem.length:Int)=0)=True:=eqt om;rw[ipo g5]at hs;have hV:R=5:=by rw[hR,hE (by rw[hs];decide),hs]
   rw[hV];simp (disch:=omega) only[strs,qu,grC,ql,k3,eg,go_sem]
   repeat' first
    |((first|refine cA (c89 _) ?_ ?_|refine cA (c88 _) ?_ ?_|refine cG (fun e=>c90 _) ?_ ?_|refine cG (fun e=>c91 _) ?_ ?_);exact flk;simp (disch:=omega) only[k3,k4,eg,Nat.sub_zero,k5,go_sem])
    |(apply qe;exact rvk;simp only[go_sem];first|exact qk|apply qh)
    |with_reducible first|intro _|apply aiA
   all_goals try exact clz
  have k5:((g.mem.length:Int)=0)=False:=eqf om;rw[ine g5]at hs;unfold ql at c92;obtain⟨e,he⟩: ∃e,e=qai names.length g.mem:=⟨_,rfl⟩
  rw[←he]at c92 hs
  by_cases g6:e=0
  ·have k6:(e=0)=True:=eqt g6;simp (disch:=omega) only[strs,qu,grC,ql,k3,eg,go_sem]
   repeat' first
    |((first|refine cA (c89 _) ?_ ?_|refine cA (c88 _) ?_ ?_|refine cG (fun e=>c90 _) ?_ ?_|refine cG (fun e=>c91 _) ?_ ?_|refine cA (c92 _) ?_ ?_);exact flk;simp (disch:=omega) only[k3,k4,eg,Nat.sub_zero,k5,k6,go_sem])
    |(apply qe;exact rvk;simp only[go_sem];apply qh)
    |with_reducible first|intro _|apply aiA
   all_goals try exact clz
   refine hK _ _ (i+1) ⟨hi,fun j hj=> ?_⟩ om (Wk.temps ?_)
   ·by_cases e':j=i
    ·subst e';rw[hs,g6]
    ·exact i2 j om
   ·(simp only[strs,qu,go_sem,qj,qd,qa,qi];try (repeat' first|(with_reducible apply aiA)|(apply qh;omega)|(apply qg;rfl)|exact qk))
  ·have k6:(e=0)=False:=eqf g6;have hV:R=e:=by rw[hR,hE (by rw[hs];exact g6),hs]
   rw[hV];simp (disch:=omega) only[strs,qu,grC,ql,k3,eg,go_sem]
   repeat' first
    |((first|refine cA (c89 _) ?_ ?_|refine cA (c88 _) ?_ ?_|refine cG (fun e=>c90 _) ?_ ?_|refine cG (fun e=>c91 _) ?_ ?_|refine cA (c92 _) ?_ ?_);exact flk;simp (disch:=omega) only[k3,k4,eg,Nat.sub_zero,k5,k6,go_sem])
    |(apply qe;exact rvk;simp only[go_sem];first|exact qk|apply qh)
    |with_reducible first|intro _|apply aiA
   all_goals try exact clz
 ·have k3:((i:Int)<gs.length)=False:=eqf om;rw[qz (fun j (hj:j<gs.length)=>i2 j om)]at hR;rw[hR];simp (disch:=omega) only[strs,qu,k3,go_sem]
  repeat' first
   |(apply qe;exact rvk;simp only[go_sem];exact qk)
theorem quu(l:List Int)(x:Int)(h:List AObj)(hn:l.length≤1000000000):ACalls Tryz.prog 200 [ql l,.int .i64 x] h (.bool (decide (x∈l))) h:=by
 have hmem: ∀i,i<l.length→(∀j,j<i→l.getD j 0≠x)→l.getD i 0=x→decide (x∈l)=true:=fun i hi _ e=>by
  refine dqt ?_;rw[←e,gdqA,zp hi];exact List.getElem_mem hi
 have hno:(∀j,j<l.length→l.getD j 0≠x)→decide (x∈l)=false:=fun hh=>by
  refine dqf fun hm=> ?_
  obtain⟨i,hi,e⟩:=List.getElem_of_mem hm;refine hh i hi ?_;rw[gdqA,zp hi];exact e
 obtain⟨R,hR⟩: ∃R,R=decide (x∈l):=⟨_,rfl⟩
 rw[←hR]at hmem hno ⊢;refine acO qy2 ?_;simp (disch:=omega) only[qxl,ql,go_sem];refine qn (T:=fun i:Nat=>qI 18 [(0,ql l),(1,.int .i64 x),(5,.int .i64 i)]) (H:=fun _=>h) (inv:=fun i=>i≤l.length∧ ∀j,j<i→l.getD j 0≠x) (m:=fun i=>l.length-i) 0 ⟨nzl _,fun j hj=>by omega⟩ (Wk.temps ?_) ?_
 ·(simp only[ql,go_sem,qj,qd,qa,qi];try (repeat' first|(with_reducible apply aiA)|(apply qh;omega)|(apply qg;rfl)|exact qk))
 rintro i ⟨i1,i2⟩ K hK
 by_cases hi:i<l.length
 ·have k1:((i:Int)<l.length)=True:=eqt om;have hm:=hmem i hi i2;obtain⟨v,hv⟩: ∃v,v=l.getD i 0:=⟨_,rfl⟩
  have ev:=hv.symm;rw[ev]at hm
  by_cases g0:v=x
  ·have k2:(v=x)=True:=eqt g0;rw[hm g0];simp (disch:=omega) only[ql,k1,k2,ev,go_sem]
   repeat' first
    |(apply qe;exact rvk;simp only[go_sem];exact qk)
    |with_reducible apply aiA
   all_goals try exact clz
  ·have k2:(v=x)=False:=eqf g0;simp (disch:=omega) only[ql,k1,k2,ev,go_sem]
   repeat' first
    |with_reducible apply aiA
   all_goals try exact clz
   refine hK _ _ (i+1) ⟨hi,fun j hj=> ?_⟩ om (Wk.temps ?_)
   ·by_cases e:j=i
    ·subst e;rw[ev];exact g0
    ·exact i2 j om
   ·(simp only[ql,go_sem,qj,qd,qa,qi];try (repeat' first|(with_reducible apply aiA)|(apply qh;omega)|(apply qg;rfl)|exact qk))
 ·have k1:((i:Int)<l.length)=False:=eqf om;rw[hno (fun j hj=>i2 j om)];simp (disch:=omega) only[ql,k1,go_sem]
  repeat' first
   |(apply qe;exact rvk;simp only[go_sem];exact qk)
theorem qAd(k v:Nat)(ty:TypeId)(L:List Int)(x:Int)(h:List AObj)(hk:qA k h=some (.mem v ty (qp L)))(hn:L.length≤1000000000):ACalls Tryz.prog 200 [.osl k v 1 0 L.length,.int .i64 x] h (.bool (decide (x∈L))) h:=by
 refine ACalls.borrow ?_ rfl;have e:([AV.osl k v 1 0 L.length,.int .i64 x]).map (rei (fun _=>true) h 8)= [AV.sl L.length (fun i=>(((qp L).drop i).take 1).map (rei (fun _=>true) h 7)),.int .i64 x]:=by
  simp only[List.map_cons,List.map_nil,rei_osl,if_true,hk,slOf_mem,qy,Nat.zero_add,Nat.mul_one,nlr,and_self,rei_int]
 rw[e];exact (quu L x [] hn).le (qwK (zO _ (fun n=>rfl) rfl) (qwK (qk) qaX.nil)) (qk)
theorem fmI(l:List Int):List.flatMap (fun i=> [AV.int .i64 (l.getD i 0)]) (List.range l.length)=qp l:=by
 induction l with
 |nil=>rfl
 |cons a l ih=>
  rw[lco,List.range_succ_eq_map,List.flatMap_cons,List.flatMap_map];show AV.int .i64 a::List.flatMap (fun i=> [AV.int .i64 (l.getD i 0)]) (List.range l.length)=_;rw[ih];rfl
def qgR(names:List Str)(gs:List Gr)(sg:List Str)(i:Nat):List Int:=((List.range i).map fun j=>els names gs (sg.getD j [])).flatten
theorem qjF(names:List Str)(gs:List Gr)(sg:List Str)(i:Nat):qgR names gs sg (i+1)=qgR names gs sg i++els names gs (sg.getD i []):=by unfold qgR;rw[List.range_succ,List.map_append,List.flatten_append];simp
theorem qgS{names:List Str}{gs:List Gr}{sg:List Str}{i:Nat}{x:Int}:x∈qgR names gs sg i↔ ∃j,j<i∧x∈els names gs (sg.getD j []):=by
 unfold qgR;rw[List.mem_flatten];constructor
 ·rintro⟨l,hl,hx⟩;obtain⟨j,hj,rfl⟩:=List.mem_map.1 hl;exact⟨j,List.mem_range.1 hj,hx⟩
 ·rintro⟨j,hj,hx⟩;exact⟨_,List.mem_map.2 ⟨j,List.mem_range.2 hj,rfl⟩,hx⟩
theorem kM{p q:Nat→Bool}{n:Nat}(h: ∀k,k<n→p k=q k):qT p n=qT q n:=by
 unfold qT;congr 1;refine List.filter_congr fun k hk=>h k (List.mem_range.1 hk)
theorem qhn{p:Nat→Bool}{n:Nat}: ∀m,n≤m→(∀k,n≤k→k<m→p k=false)→qT p m=qT p n:=by
 intro m
 induction m with
 |zero=>
  intro h _
  have:n=0:=by omega
  subst this;rfl
 |succ m ih=>
  intro h1 h2
  by_cases e:n=m+1
  ·subst e;rfl
  ·rw[zH,h2 m om om,ine (by simp),lan,ih om (fun k a b=>h2 k a om)]
theorem qt7(names:List Str)(gs:List Gr)(s:Str)(M:Nat)(h1:1≤M)(hg: ∀i,(gs.getD i default).mem.length≤M):(els names gs s).length≤M:=by
 unfold els;split
 ·simpa using h1
 ·exact hg _
theorem qub{names:List Str}{gs:List Gr}{sg:List Str}(h:qwI names gs)(hz: ∀j,j<sg.length→qbE names gs sg j=0):
  qT (qez names gs sg sg.length).testBit 64=qT (fun k=>decide ((k:Int)∈qgR names gs sg sg.length)) names.length:=by
 obtain⟨_,h2⟩:=qfI h hz;have e:qT (qez names gs sg sg.length).testBit 64=qT (fun k=>decide ((k:Int)∈qgR names gs sg sg.length)) 64:=kM fun k _=>by
  rw[h2 k];exact decide_eq_decide.2 qgS.symm
 rw[e];refine qhn 64 (by have:=h.n32;omega) (fun k h1 _=>dqf fun hm=> ?_);obtain⟨j,hj,hm⟩:=qgS.1 hm;have h3: ¬(nIx names (sg.getD j [])<0∧gIx gs (sg.getD j [])<0):=by
  intro hc
  have:=hz j hj
  unfold qbE at this;rw[ipo hc]at this;cases this
 have:=(jl (qfZ h h3) _ hm).2
 omega
theorem _root_.AF.Wk.kill6{t:List AV}{h l:List AObj}{a b c d e f:AObj}{v:Nat}{ty:TypeId}{cs:List AV}:Wk t (h++a::b::c::d::e::f:: .mem v ty cs::l) t (h++a::b::c::d::e::f:: .emp (v+1)::l):=by
 have:=Wk.kill0 (t:=t) (h:=h++ [a,b,c,d,e,f]) (l:=l) (v:=v) (ty:=ty) (cs:=cs)
 simpa using this
theorem qua(names:List Str)(gs:List Gr)(sg:List Str)(h:List AObj)(hz:Szs names gs)(hs:sg.length≤1000000)(hgm: ∀i,(gs.getD i default).mem.length≤1000):
  ACalls Tryz.prog 144 [strs names,qu gs,strs sg] h (.tup [ql (jC names gs sg),.int .i64 (kx names gs sg)]) h:=by
 have c49:=fun h=>sgR names gs h hz
 obtain⟨z1,z2,z3,z4,z5⟩:=hz;obtain⟨R,hR⟩: ∃R,R=kx names gs sg:=⟨_,rfl⟩
 obtain⟨Q,hQ⟩: ∃Q,Q=jC names gs sg:=⟨_,rfl⟩
 rw[←hR,←hQ];unfold jC at hQ;rw[←hR]at hQ;unfold kx at hR;obtain⟨e,he⟩: ∃e,e=sgE names gs:=⟨_,rfl⟩
 rw[←he]at c49 hR
 by_cases g0: ¬e=0
 ·have k0:(e=0)=False:=eqf g0;rw[ipo g0]at hR;rw[ine om]at hQ;rw[hR,hQ];refine acO qrW ?_;simp (disch:=omega) only[qtb,strs,qu,go_sem];unfold strs qu at c49
  repeat' first
   |(refine cA (c49 _) flk ?_;simp (disch:=omega) only[k0,go_sem])
   |(apply qb;exact rvk;simp only[go_sem])
  exact zu
 have g0:e=0:=Classical.not_not.1 g0;have k0:(e=0)=True:=eqt g0;rw[ine (fun hc=>hc g0)]at hR;have hok:=qdB (he.symm.trans g0);have h32:=hok.n32;unfold strs qu at c49;refine acO qrW ?_;simp (disch:=omega) only[qtb,strs,qu,go_sem]
 repeat' first
  |(refine cA (c49 _) flk ?_;simp (disch:=omega) only[k0,go_sem])
 have eM:qS [AV.int .i64 0] 0=qp (qgR names gs sg 0):=rfl;rw[eM];refine qn (T:=fun i:Nat×Nat×Nat=>qI 81 [(0,strs names),(1,qu gs),(2,strs sg),(8,.osl (h.length+1) i.2.1 1 0 (qgR names gs sg i.1).length),(9,.int .i64 i.1)]) (H:=fun i=>h++ [.emp 1,.mem i.2.1 3 (qp (qgR names gs sg i.1)),.emp i.2.2,.emp 0,.emp 0,.emp 0,.emp 0,.emp 0])
  (inv:=fun i=>i.1≤sg.length∧(∀j,j<i.1→qbE names gs sg j=0)∧(qgR names gs sg i.1).length≤1000*i.1) (m:=fun i=>sg.length-i.1) (0,1,0) ⟨nzl _,fun j hj=>absurd hj (nnz j),by simp[qgR]⟩ (Wk.temps ?_) ?_
 ·(simp only[strs,qu,qgR,List.range_zero,List.map_nil,List.flatten_nil,lnl,go_sem,qj,qd,qa,qi];try (repeat' first|(with_reducible apply aiA)|(apply qh;omega)|(apply qg;rfl)|exact qk))
 rintro⟨i,v,w⟩ ⟨i1,i2,i3⟩ K hK;simp only at i1 i2 i3 hK;have hst:=qjF names gs sg i;have hel:=qt7 names gs (sg.getD i []) 1000 om hgm;obtain⟨L,hL⟩: ∃L,L=qgR names gs sg i:=⟨_,rfl⟩
 have eL:=hL.symm;have eC:=qy L;rw[eL]at hst i3
 by_cases hi:i<sg.length
 ·have k1:((i:Int)<sg.length)=True:=eqt om;have k2:((i:Int)≤sg.length)=True:=eqt om;have hE:=qO (f:=qbE names gs sg) hi i2;have hs:qbE names gs sg i=if nIx names (sg.getD i [])<0∧gIx gs (sg.getD i [])<0 then 6 else if zd (fun j=>decide (sg.getD i []=sg.getD j [])) i=true then 7 else 0:=rfl
  obtain⟨s,hsx⟩: ∃s,s=sg.getD i []:=⟨_,rfl⟩
  have es:=hsx.symm;simp only[es]at hs hst hel;have c54:=fun h=>qiK names.length (fun j=>names.getD j []) s h z1
  have c55:=fun h=>qDO gs.length gs h om
  have c54b:=fun h=>qiK gs.length (fun j=>(gs.getD j default).name) s h om
  have c54c:=fun h=>qiK i (fun j=>sg.getD j []) s h om
  have hn:=qcS names s;have hg:=qcI gs s;obtain⟨n,hnx⟩: ∃n,n=nIx names s:=⟨_,rfl⟩
  obtain⟨g,hgx⟩: ∃g,g=gIx gs s:=⟨_,rfl⟩
  have hnx':j8 (fun j=>decide (s=names.getD j [])) names.length 0=n:=hnx.symm;have hgx':j8 (fun j=>decide (s=(gs.getD j default).name)) gs.length 0=g:=hgx.symm;rw[hnx']at c54;rw[hgx']at c54b;rw[←hnx]at hn hs;rw[←hgx]at hg hs;simp only[grC,ql]at c55
  by_cases g1:n<0∧g<0
  ·have q1:(n<0)=True:=eqt g1.1;have q2:(g<0)=True:=eqt g1.2;rw[ipo g1]at hs;have hV:R=6:=by rw[hR,hE (by rw[hs];decide),hs]
   rw[hV,ine (by decide)]at hQ;rw[hV,hQ];simp (disch:=omega) only[strs,qu,grC,ql,k1,es,eL,go_sem]
   repeat' first
    |((first|refine cA (c54 _) ?_ ?_|refine cA (c55 _) ?_ ?_|refine cA (c54b _) ?_ ?_);exact flk;simp (disch:=omega) only[k1,k2,es,q1,q2,go_sem])
    |(apply qb;exact rvk;simp only[go_sem])
    |with_reducible apply aiA
   all_goals try exact clz
   exact zu
  rw[ine g1]at hs;have qf:((if n<0 then decide (g<0) else false)=true)=False:=eqf (by
   split
   ·rename_i a;simp;exact Int.not_lt.1 (fun b=>g1 ⟨a,b⟩)
   ·simp)
  rcases qhj (fun j=>decide (s=sg.getD j [])) i with⟨g2,m,hm0,g2'⟩|⟨g2,g2'⟩
  ·rw[g2']at c54c;rw[ipo g2]at hs;have k3:((0:Int)≤m)=True:=eqt hm0;have hV:R=7:=by rw[hR,hE (by rw[hs];decide),hs]
   rw[hV,ine (by decide)]at hQ;rw[hV,hQ]
   by_cases g3:n<0
   ·have q1:(n<0)=True:=eqt g3;have q2:(g<0)=False:=eqf (fun hc=>g1 ⟨g3,hc⟩);simp (disch:=omega) only[strs,qu,grC,ql,k1,es,eL,go_sem]
    repeat' first
     |((first|refine cA (c54 _) ?_ ?_|refine cA (c55 _) ?_ ?_|refine cA (c54b _) ?_ ?_|refine cA (c54c _) ?_ ?_);exact flk;simp (disch:=omega) only[k1,k2,es,q1,q2,k3,Nat.sub_zero,go_sem])
     |(apply qb;exact rvk;simp only[go_sem])
     |with_reducible apply aiA
    all_goals try exact clz
    exact zu
   ·have q1:(n<0)=False:=eqf g3;simp (disch:=omega) only[strs,qu,grC,ql,k1,es,eL,go_sem]
    repeat' first
     |((first|refine cA (c54 _) ?_ ?_|refine cA (c55 _) ?_ ?_|refine cA (c54b _) ?_ ?_|refine cA (c54c _) ?_ ?_);exact flk;simp (disch:=omega) only[k1,k2,es,q1,k3,Nat.sub_zero,go_sem])
     |(apply qb;exact rvk;simp only[go_sem])
     |with_reducible first|intro _|apply aiA
    all_goals try exact clz
    exact zu
  rw[g2']at c54c;rw[ine (by rw[g2];simp)]at hs;have hi2: ∀j,j<i+1→qbE names gs sg j=0:=fun j hj=>by
   by_cases e':j=i
   ·subst e';exact hs
   ·exact i2 j om
  have eT:List.take L.length (qp L)=qp L:=ltl om
  by_cases g3:n<0
  ·have q1:(n<0)=True:=eqt g3;have q2:(g<0)=False:=eqf (fun hc=>g1 ⟨g3,hc⟩);have q3:(0≤n)=False:=eqf om;have eE:els names gs s=(gs.getD g.toNat default).mem:=by unfold els;rw[←hnx,←hgx,ine om]
   rcases hg with⟨k,p1,p2,rfl⟩|⟨_,p2⟩
   ·rw[itn]at eE;obtain⟨y,hw⟩: ∃y,y=gs.getD k default:=⟨_,rfl⟩
    have ew:=hw.symm;rw[ew]at eE;rw[eE]at hst hel;have q4:((k:Int)<gs.length)=True:=eqt om;have q5:(0≤(k:Int))=True:=eqt om;simp (disch:=omega) only[strs,qu,grC,ql,k1,es,eL,Nat.mul_one,go_sem]
    repeat' first
     |((first|refine cA (c54 _) ?_ ?_|refine cA (c55 _) ?_ ?_|refine cA (c54b _) ?_ ?_|refine cA (c54c _) ?_ ?_);exact flk;simp (disch:=omega) only[k1,k2,es,ew,q1,q2,q3,q4,q5,eC,eT,Nat.sub_zero,Nat.mul_one,go_sem])
     |(apply qb;exact rvk;simp only[go_sem])
     |with_reducible first|intro _|apply aiA
    all_goals try exact clz
    ·rw[fmI];exact qy _
    rw[fmI,←qR,←lap,←hst];refine hK _ _ (i+1,v+1,w) ⟨hi,hi2,by simp only;rw[hst,lap];omega⟩ (by simp only;omega) (Wk.temps ?_)
    (simp only[strs,qu,grC,ql,go_sem,qj,qd,qa,qi];try (repeat' first|(with_reducible apply aiA)|(apply qh;omega)|(apply qg;rfl)|exact qk))
   ·exact absurd ⟨g3,om⟩ g1
  ·have q1:(n<0)=False:=eqf g3;have q3:(0≤n)=True:=eqt om;have eE:els names gs s= [n]:=by unfold els;rw[←hnx,ipo om]
   rw[eE]at hst hel;simp (disch:=omega) only[strs,qu,grC,ql,k1,es,eL,Nat.mul_one,go_sem]
   repeat' first
    |((first|refine cA (c54 _) ?_ ?_|refine cA (c55 _) ?_ ?_|refine cA (c54b _) ?_ ?_|refine cA (c54c _) ?_ ?_);exact flk;simp (disch:=omega) only[k1,k2,es,q1,q3,eC,eT,Nat.sub_zero,Nat.mul_one,go_sem])
    |(apply qb;exact rvk;simp only[go_sem])
    |with_reducible first|intro _|apply aiA
   all_goals try exact clz
   have eA:qp L++ [AV.int .i64 n]=qp (L++ [n]):=by rw[qR];rfl
   have eN:L.length+1=(L++ [n]).length:=by simp
   rw[eA,eN,←hst];refine hK _ _ (i+1,v+1,w+1+1) ⟨hi,hi2,by simp only;rw[hst,lap,List.length_singleton];omega⟩ (by simp only;omega) (Wk.trans Wk.kill2 ?_);refine Wk.temps ?_
   (simp only[strs,qu,go_sem,qj,qd,qa,qi];try (repeat' first|(with_reducible apply aiA)|(apply qh;omega)|(apply qg;rfl)|exact qk))
 have k1:((i:Int)<sg.length)=False:=eqf om;obtain rfl:i=sg.length:=by omega
 have hV:R=0:=by rw[hR];exact qz i2
 rw[ipo hV,qub hok i2,eL]at hQ;rw[hV];simp (disch:=omega) only[strs,qu,k1,eL,go_sem];have eM2:qS [AV.int .i64 0] 0=qp (qT (fun k=>decide ((k:Int)∈L)) 0):=rfl;rw[eM2];obtain⟨p,hp⟩: ∃p:Nat→Bool,p=fun k:Nat=>decide ((k:Int)∈L):=⟨_,rfl⟩
 have ep: ∀k:Nat,decide ((k:Int)∈L)=p k:=fun k=>by rw[hp]
 rw[←hp]at hQ ⊢;refine qn (T:=fun i:Nat×Nat×Nat=>qI 81 [(0,strs names),(8,.osl (h.length+1) v 1 0 L.length),(12,.osl (h.length+5) i.2.1 1 0 (qT p i.1).length),(13,.int .i64 i.1)]) (H:=fun i=>h++ [.emp 1,.mem v 3 (qp L),.emp w,.emp 0,.emp 0,.mem i.2.1 3 (qp (qT p i.1)),.emp i.2.2,.emp 0])
  (inv:=fun i=>i.1≤names.length) (m:=fun i=>names.length-i.1) (0,1,0) (nzl _) (Wk.temps ?_) ?_
 ·(simp only[strs,qT,List.range_zero,List.filter_nil,List.map_nil,lnl,go_sem,qj,qd,qa,qi];try (repeat' first|(with_reducible apply aiA)|(apply qh;omega)|(apply qg;rfl)|exact qk))
 rintro⟨k,v2,w2⟩ j1 K2 hK2;simp only at j1 hK2;have hst2:=zH p k;have hln2:=qN p k;obtain⟨M,hM⟩: ∃M,M=qT p k:=⟨_,rfl⟩
 have eM:=hM.symm;have eC2:=qy M;rw[eM]at hst2 hln2
 by_cases hk:k<names.length
 ·have y1:((k:Int)<names.length)=True:=eqt om;have c56:=qAd (h.length+1) v 3 L k (h++ [.emp 1,.mem v 3 (qp L),.emp w,.emp 0,.emp 0,.mem v2 3 (qp M),.emp w2,.emp 0]) (by rw[getO_app];rfl) om;rw[ep]at c56;cases hb:p k with
  |true=>
   rw[hb]at c56 hst2;have eT2:List.take M.length (qp M)=qp M:=ltl om;simp (disch:=omega) only[strs,y1,eM,go_sem]
   repeat' first
    |(refine cA (c56) flk ?_;simp (disch:=omega) only[eC2,eT2,Nat.mul_one,go_sem])
    |with_reducible apply aiA
   all_goals try exact clz
   rw[ipo rfl]at hst2;have eA:qp M++ [AV.int .i64 (k:Int)]=qp (M++ [(k:Int)]):=by rw[qR];rfl
   have eN:M.length+1=(M++ [(k:Int)]).length:=by simp
   rw[eA,eN,←hst2];refine hK2 _ _ (k+1,v2+1,w2+1+1) hk (by simp only;omega) (Wk.trans Wk.kill6 (Wk.temps ?_))
   (simp only[strs,go_sem,qj,qd,qa,qi];try (repeat' first|(with_reducible apply aiA)|(apply qh;omega)|(apply qg;rfl)|exact qk))
  |false=>
   rw[hb]at c56 hst2;rw[ine (by simp),lan]at hst2;simp (disch:=omega) only[strs,y1,eM,go_sem]
   repeat' first
    |(refine cA (c56) flk ?_;simp (disch:=omega) only[Nat.mul_one,go_sem])
   refine hK2 _ _ (k+1,v2,w2) hk (by simp only;omega) ?_;simp only[hst2];refine Wk.temps ?_
   (simp only[strs,go_sem,qj,qd,qa,qi];try (repeat' first|(with_reducible apply aiA)|(apply qh;omega)|(apply qg;rfl)|exact qk))
 have y1:((k:Int)<names.length)=False:=eqf om;obtain rfl:k=names.length:=by omega
 rw[hQ,eM];simp (disch:=omega) only[strs,y1,go_sem]
 repeat' first
  |(apply qb;exact rvk;simp only[go_sem])
 rw[ipo om];refine qL ⟨zO _ (fun n=>rfl) rfl,qk,trivial⟩
theorem qlV(l:List Int)(x:Int)(h:List AObj)(hn:l.length≤1000000000):ACalls Tryz.prog 202 [ql l,.int .i64 x] h (.bool (decide (x∈l))) h:=by
 have hmem: ∀i,i<l.length→(∀j,j<i→l.getD j 0≠x)→l.getD i 0=x→decide (x∈l)=true:=fun i hi _ e=>by
  refine dqt ?_;rw[←e,gdqA,zp hi];exact List.getElem_mem hi
 have hno:(∀j,j<l.length→l.getD j 0≠x)→decide (x∈l)=false:=fun hh=>by
  refine dqf fun hm=> ?_
  obtain⟨i,hi,e⟩:=List.getElem_of_mem hm;refine hh i hi ?_;rw[gdqA,zp hi];exact e
 obtain⟨R,hR⟩: ∃R,R=decide (x∈l):=⟨_,rfl⟩
 rw[←hR]at hmem hno ⊢;refine acO qy4 ?_;simp (disch:=omega) only[qxn,ql,go_sem];refine qn (T:=fun i:Nat=>qI 18 [(0,ql l),(1,.int .i64 x),(5,.int .i64 i)]) (H:=fun _=>h) (inv:=fun i=>i≤l.length∧ ∀j,j<i→l.getD j 0≠x) (m:=fun i=>l.length-i) 0 ⟨nzl _,fun j hj=>by omega⟩ (Wk.temps ?_) ?_
 ·(simp only[ql,go_sem,qj,qd,qa,qi];try (repeat' first|(with_reducible apply aiA)|(apply qh;omega)|(apply qg;rfl)|exact qk))
 rintro i ⟨i1,i2⟩ K hK
 by_cases hi:i<l.length
 ·have k1:((i:Int)<l.length)=True:=eqt om;have hm:=hmem i hi i2;obtain⟨v,hv⟩: ∃v,v=l.getD i 0:=⟨_,rfl⟩
  have ev:=hv.symm;rw[ev]at hm
  by_cases g0:v=x
  ·have k2:(v=x)=True:=eqt g0;rw[hm g0];simp (disch:=omega) only[ql,k1,k2,ev,go_sem]
   repeat' first
    |(apply qe;exact rvk;simp only[go_sem];exact qk)
    |with_reducible apply aiA
   all_goals try exact clz
  ·have k2:(v=x)=False:=eqf g0;simp (disch:=omega) only[ql,k1,k2,ev,go_sem]
   repeat' first
    |with_reducible apply aiA
   all_goals try exact clz
   refine hK _ _ (i+1) ⟨hi,fun j hj=> ?_⟩ om (Wk.temps ?_)
   ·by_cases e:j=i
    ·subst e;rw[ev];exact g0
    ·exact i2 j om
   ·(simp only[ql,go_sem,qj,qd,qa,qi];try (repeat' first|(with_reducible apply aiA)|(apply qh;omega)|(apply qg;rfl)|exact qk))
 ·have k1:((i:Int)<l.length)=False:=eqf om;rw[hno (fun j hj=>i2 j om)];simp (disch:=omega) only[ql,k1,go_sem]
  repeat' first
   |(apply qe;exact rvk;simp only[go_sem];exact qk)
theorem qtG(l:List Int)(h:List AObj)(hl:l.length≤1000000000)(hs:qai 64 l=0):ACalls Tryz.prog 203 [ql l] h (.int .i64 0) h:=by
 have hz:=jS.1 hs;refine acO qy5 ?_;simp (disch:=omega) only[qxo,ql,go_sem];refine qn (T:=fun i:Nat=>qI 36 [(0,ql l),(3,.int .i64 i)]) (H:=fun _=>h) (inv:=fun i=>i≤l.length) (m:=fun i=>l.length-i) 0 (nzl _) (Wk.temps ?_) ?_
 ·(simp only[ql,go_sem,qj,qd,qa,qi];try (repeat' first|(with_reducible apply aiA)|(apply qh;omega)|(apply qg;rfl)|exact qk))
 rintro i i1 K hK
 by_cases hi:i<l.length
 ·have k1:((i:Int)<l.length)=True:=eqt om;have hs:=hz i hi;unfold qbC at hs;obtain⟨v,hv⟩: ∃v,v=l.getD i 0:=⟨_,rfl⟩
  obtain⟨u,hu⟩: ∃u,u=l.getD (i-1) 0:=⟨_,rfl⟩
  have ev:=hv.symm;have eu:=hu.symm;rw[ev,eu]at hs;have hb: ¬(v<0∨64≤v):=fun hc=>by rw[ipo hc]at hs;cases hs
  rw[ine hb]at hs;have q1:(v<0)=False:=eqf om;have q2:((63:Int)<v)=False:=eqf om
  by_cases g3:0<i
  ·have q3:((0:Int)<i)=True:=eqt om;have q4:((i:Int)-1).toNat=i-1:=by omega
   have q5:(0≤(i:Int)-1)=True:=eqt om;have q6:((i:Int)-1<l.length)=True:=eqt om;have q7:(v≤u)=False:=eqf fun hc=>by rw[ipo ⟨g3,hc⟩]at hs;cases hs
   simp (disch:=omega) only[ql,k1,ev,eu,q1,q2,q3,q4,q5,q6,q7,go_sem]
   repeat' first
    |with_reducible apply aiA
   all_goals try exact clz
   refine hK _ _ (i+1) hi om (Wk.temps ?_)
   (simp only[ql,go_sem,qj,qd,qa,qi];try (repeat' first|(with_reducible apply aiA)|(apply qh;omega)|(apply qg;rfl)|exact qk))
  ·have q3:((0:Int)<i)=False:=eqf om;simp (disch:=omega) only[ql,k1,ev,q1,q2,q3,go_sem]
   repeat' first
    |(apply qe;exact rvk;simp only[go_sem];apply qh)
    |with_reducible first|intro _|apply aiA
   all_goals try exact clz
   refine hK _ _ (i+1) hi om (Wk.temps ?_)
   (simp only[ql,go_sem,qj,qd,qa,qi];try (repeat' first|(with_reducible apply aiA)|(apply qh;omega)|(apply qg;rfl)|exact qk))
 ·have k1:((i:Int)<l.length)=False:=eqf om;simp (disch:=omega) only[ql,k1,go_sem]
  repeat' first
   |(apply qe;exact rvk;simp only[go_sem];exact qk)
theorem qwS(a b:List Int)(h:List AObj)(ha:a.length≤1000000000)(hb:b.length≤1000000000)(sa:qai 64 a=0)(sb:qai 64 b=0):ACalls Tryz.prog 201 [ql a,ql b] h (.bool false) h:=by
 have c1:=fun h=>qtG a h ha sa
 have c2:=fun h=>qtG b h hb sb
 unfold ql at c1 c2;refine acO qy3 ?_;simp (disch:=omega) only[qxm,ql,go_sem]
 repeat' first
  |((first|refine cA (c1 _) ?_ ?_|refine cG (fun e=>c2 _) ?_ ?_);exact flk;simp (disch:=omega) only[go_sem])
  |(apply qe;exact rvk;simp only[go_sem];exact qk)
theorem qCY(a b:List Int)(h:List AObj)(ha:a.length≤1000000000)(hb:b.length≤1000000000)(sa:qai 64 a=0)(sb:qai 64 b=0):
  ACalls Tryz.prog 146 [ql a,ql b] h (.tup [ql (qT (fun k=>decide ((k:Int)∈a)||decide ((k:Int)∈b)) 64),.int .i64 0]) h:=by
 have c0:=fun h=>qwS a b h ha hb sa sb
 unfold ql at c0;obtain⟨p,hp⟩: ∃p:Nat→Bool,p=fun k:Nat=>decide ((k:Int)∈a)||decide ((k:Int)∈b):=⟨_,rfl⟩
 have ep: ∀k:Nat,p k=(decide ((k:Int)∈a)||decide ((k:Int)∈b)):=fun k=>by rw[hp]
 rw[←hp];refine acO qyJ ?_;simp (disch:=omega) only[qw4,ql,go_sem]
 repeat' first
  |(refine cA (c0 _) flk ?_;simp (disch:=omega) only[go_sem])
 have eM2:qS [AV.int .i64 0] 0=qp (qT p 0):=rfl;rw[eM2];refine qn (T:=fun i:Nat×Nat×Nat=>qI 29 [(0,ql a),(1,ql b),(6,.osl (h.length+1) i.2.1 1 0 (qT p i.1).length),(7,.int .i64 i.1)]) (H:=fun i=>h++ [.emp 1,.mem i.2.1 3 (qp (qT p i.1)),.emp i.2.2,.emp 0])
  (inv:=fun i=>i.1≤64) (m:=fun i=>64-i.1) (0,1,0) (nzl _) (Wk.temps ?_) ?_
 ·(simp only[ql,qT,List.range_zero,List.filter_nil,List.map_nil,lnl,go_sem,qj,qd,qa,qi];try (repeat' first|(with_reducible apply aiA)|(apply qh;omega)|(apply qg;rfl)|exact qk))
 rintro⟨k,v2,w2⟩ j1 K2 hK2;simp only at j1 hK2;have hst2:=zH p k;have hln2:=qN p k;obtain⟨M,hM⟩: ∃M,M=qT p k:=⟨_,rfl⟩
 have eM:=hM.symm;have eC2:=qy M;rw[eM]at hst2 hln2
 by_cases hk:k<64
 ·have y1:((k:Int)<64)=True:=eqt om;have c1:=fun h=>qlV a k h ha
  have c2:=fun h=>qlV b k h hb
  have epk:=ep k;unfold ql at c1 c2;cases hb1:decide ((k:Int)∈a)with
  |true=>
   rw[hb1]at c1 epk;rw[Bool.true_or]at epk;rw[epk,ipo rfl]at hst2;have eT2:List.take M.length (qp M)=qp M:=ltl om;simp (disch:=omega) only[ql,y1,eM,go_sem]
   repeat' first
    |(refine qm ( .bool false) ?_;simp (disch:=omega) only[eC2,eT2,Nat.mul_one,go_sem])
    |(refine cA (c1 _) flk ?_;simp (disch:=omega) only[go_sem])
    |with_reducible apply aiA
   all_goals try exact clz
   have eA:qp M++ [AV.int .i64 (k:Int)]=qp (M++ [(k:Int)]):=by rw[qR];rfl
   have eN:M.length+1=(M++ [(k:Int)]).length:=by simp
   rw[eA,eN,←hst2];refine hK2 _ _ (k+1,v2+1,w2+1+1) hk (by simp only;omega) (Wk.trans Wk.kill2 (Wk.temps ?_))
   (simp only[ql,go_sem,qj,qd,qa,qi];try (repeat' first|(with_reducible apply aiA)|(apply qh;omega)|(apply qg;rfl)|exact qk))
  |false=>
   rw[hb1]at c1 epk;rw[Bool.false_or]at epk;cases hb2:decide ((k:Int)∈b)with
   |true=>
    rw[hb2]at c2 epk;rw[epk,ipo rfl]at hst2;have eT2:List.take M.length (qp M)=qp M:=ltl om;simp (disch:=omega) only[ql,y1,eM,go_sem]
    repeat' first
     |((first|refine cA (c1 _) ?_ ?_|refine cG (fun e=>c2 _) ?_ ?_);exact flk;simp (disch:=omega) only[eC2,eT2,Nat.mul_one,go_sem])
     |with_reducible apply aiA
    all_goals try exact clz
    have eA:qp M++ [AV.int .i64 (k:Int)]=qp (M++ [(k:Int)]):=by rw[qR];rfl
    have eN:M.length+1=(M++ [(k:Int)]).length:=by simp
    rw[eA,eN,←hst2];refine hK2 _ _ (k+1,v2+1,w2+1+1) hk (by simp only;omega) (Wk.trans Wk.kill2 (Wk.temps ?_))
    (simp only[ql,go_sem,qj,qd,qa,qi];try (repeat' first|(with_reducible apply aiA)|(apply qh;omega)|(apply qg;rfl)|exact qk))
   |false=>
    rw[hb2]at c2 epk;rw[epk,ine (by simp),lan]at hst2;simp (disch:=omega) only[ql,y1,eM,go_sem]
    repeat' first
     |((first|refine cA (c1 _) ?_ ?_|refine cG (fun e=>c2 _) ?_ ?_);exact flk;simp (disch:=omega) only[Nat.mul_one,go_sem])
    refine hK2 _ _ (k+1,v2,w2) hk (by simp only;omega) ?_;simp only[hst2];refine Wk.temps ?_
    (simp only[ql,go_sem,qj,qd,qa,qi];try (repeat' first|(with_reducible apply aiA)|(apply qh;omega)|(apply qg;rfl)|exact qk))
 have y1:((k:Int)<64)=False:=eqf om;obtain rfl:k=64:=by omega
 rw[eM];simp (disch:=omega) only[ql,y1,go_sem]
 repeat' first
  |(apply qb;exact rvk;simp only[go_sem])
 rw[ipo om];refine qL ⟨zO _ (fun n=>rfl) rfl,qk,trivial⟩
def qf1(a b:List Int)(i:Nat):List Int:=(a.take i).filter fun x=>decide (x∈b)
theorem qll{a b:List Int}{i:Nat}(hi:i<a.length):qf1 a b (i+1)=qf1 a b i++if decide (a.getD i 0∈b)=true then [a.getD i 0] else []:=by
 unfold qf1;rw[List.take_add_one,zp hi,gdqA,zp hi,List.filter_append];congr 1;show List.filter _ [a[i]]=if decide (a[i]∈b)=true then [a[i]] else []
 rw[List.filter_cons];split<;>rfl
theorem qpp(a b:List Int)(i:Nat):(qf1 a b i).length≤i:=by
 unfold qf1;have h1:=List.length_filter_le (fun x=>decide (x∈b)) (a.take i);have h2:=List.length_take_le i a;omega
theorem qDz(a b:List Int)(h:List AObj)(ha:a.length≤1000000)(hb:b.length≤1000000000)(sa:qai 64 a=0)(sb:qai 64 b=0):
  ACalls Tryz.prog 145 [ql a,ql b] h (.tup [ql (qf1 a b a.length),.int .i64 0]) h:=by
 have c0:=fun h=>qwS a b h om hb sa sb
 unfold ql at c0;refine acO qyI ?_;simp (disch:=omega) only[qw3,ql,go_sem]
 repeat' first
  |(refine cA (c0 _) flk ?_;simp (disch:=omega) only[go_sem])
 have eM2:qS [AV.int .i64 0] 0=qp (qf1 a b 0):=rfl;rw[eM2];refine qn (T:=fun i:Nat×Nat×Nat=>qI 32 [(0,ql a),(1,ql b),(6,.osl (h.length+1) i.2.1 1 0 (qf1 a b i.1).length),(7,.int .i64 i.1)]) (H:=fun i=>h++ [.emp 1,.mem i.2.1 3 (qp (qf1 a b i.1)),.emp i.2.2,.emp 0])
  (inv:=fun i=>i.1≤a.length) (m:=fun i=>a.length-i.1) (0,1,0) (nzl _) (Wk.temps ?_) ?_
 ·(simp only[ql,qf1,List.take_zero,List.filter_nil,lnl,go_sem,qj,qd,qa,qi];try (repeat' first|(with_reducible apply aiA)|(apply qh;omega)|(apply qg;rfl)|exact qk))
 rintro⟨k,v2,w2⟩ j1 K2 hK2;simp only at j1 hK2;have hst2:= @qll a b k;have hln2:=qpp a b k;obtain⟨M,hM⟩: ∃M,M=qf1 a b k:=⟨_,rfl⟩
 have eM:=hM.symm;have eC2:=qy M;rw[eM]at hst2 hln2
 by_cases hk:k<a.length
 ·have y1:((k:Int)<a.length)=True:=eqt om;have hst2:=hst2 hk;obtain⟨x,hx⟩: ∃x,x=a.getD k 0:=⟨_,rfl⟩
  have ex:=hx.symm;rw[ex]at hst2;have c1:=fun h=>qlV b x h hb
  unfold ql at c1;cases hb1:decide (x∈b)with
  |true=>
   rw[hb1]at c1 hst2;rw[ipo rfl]at hst2;have eT2:List.take M.length (qp M)=qp M:=ltl om;simp (disch:=omega) only[ql,y1,eM,ex,go_sem]
   repeat' first
    |(refine cA (c1 _) flk ?_;simp (disch:=omega) only[y1,ex,eC2,eT2,Nat.mul_one,go_sem])
    |with_reducible apply aiA
   all_goals try exact clz
   have eA:qp M++ [AV.int .i64 x]=qp (M++ [x]):=by rw[qR];rfl
   have eN:M.length+1=(M++ [x]).length:=by simp
   rw[eA,eN,←hst2];refine hK2 _ _ (k+1,v2+1,w2+1+1) hk (by simp only;omega) (Wk.trans Wk.kill2 (Wk.temps ?_))
   (simp only[ql,go_sem,qj,qd,qa,qi];try (repeat' first|(with_reducible apply aiA)|(apply qh;omega)|(apply qg;rfl)|exact qk))
  |false=>
   rw[hb1]at c1 hst2;rw[ine (by simp),lan]at hst2;simp (disch:=omega) only[ql,y1,eM,ex,go_sem]
   repeat' first
    |(refine cA (c1 _) flk ?_;simp (disch:=omega) only[y1,ex,Nat.mul_one,go_sem])
    |with_reducible apply aiA
   all_goals try exact clz
   refine hK2 _ _ (k+1,v2,w2) hk (by simp only;omega) ?_;simp only[hst2];refine Wk.temps ?_
   (simp only[ql,go_sem,qj,qd,qa,qi];try (repeat' first|(with_reducible apply aiA)|(apply qh;omega)|(apply qg;rfl)|exact qk))
 have y1:((k:Int)<a.length)=False:=eqf om;obtain rfl:k=a.length:=by omega
 rw[eM];simp (disch:=omega) only[ql,y1,go_sem]
 repeat' first
  |(apply qb;exact rvk;simp only[go_sem])
 rw[ipo om];refine qL ⟨zO _ (fun n=>rfl) rfl,qk,trivial⟩
theorem qlm(a b:List Int):decide (0<(qf1 a b a.length).length)=a.any fun x=>decide (x∈b):=by
 unfold qf1;rw[List.take_length];cases h:a.any fun x=>decide (x∈b)with
 |true=>
  obtain⟨x,h1,h2⟩:=List.any_eq_true.1 h;exact dqt (List.length_pos_of_mem (List.mem_filter.2 ⟨h1,h2⟩))
 |false=>
  refine dqf ?_;rw[List.filter_eq_nil_iff.2 fun x hx=>by simpa using List.any_eq_false.1 h x hx];simp
theorem qbe{p:Nat→Bool}{n:Nat}{x:Int}:x∈qT p n↔ ∃k:Nat,k<n∧p k=true∧x=k:=by
 unfold qT;constructor
 ·intro h;obtain⟨k,hk,rfl⟩:=List.mem_map.1 h;obtain⟨h1,h2⟩:=List.mem_filter.1 hk;exact⟨k,List.mem_range.1 h1,h2,rfl⟩
 ·rintro⟨k,h1,h2,rfl⟩;exact List.mem_map.2 ⟨k,List.mem_filter.2 ⟨List.mem_range.2 h1,h2⟩,rfl⟩
theorem qcm{p:Nat→Bool}{n:Nat}(hn:n≤64):qai 64 (qT p n)=0:=by
 unfold qai;refine qz fun i hi=> ?_
 have hpw:(qT p n).Pairwise (· < ·):=by
  unfold qT;rw[List.pairwise_map];refine List.Pairwise.imp ?_ (List.Pairwise.filter _ List.pairwise_lt_range);intro a b hab;show (a:Int)<(b:Int);omega
 have g: ∀j (hj:j<(qT p n).length),(qT p n).getD j 0=(qT p n)[j]:=fun j hj=>by rw[gdqA,zp hj];rfl
 unfold qbC;obtain⟨k,h1,h2,h3⟩:=qbe.1 (List.getElem_mem hi);rw[g i hi,ine (by rw[h3];omega)];split
 ·rename_i hc;obtain⟨h4,h5⟩:=hc;rw[g (i-1) om]at h5
  have:=List.pairwise_iff_getElem.1 hpw (i-1) i om hi om
  omega
 ·rfl
theorem smw(ws:List Str)(m:Nat)(k:Nat→Str)(h:List AObj)(h1:ws.length≤1000000000)(h2:m≤1000000000):
  ACalls Tryz.prog 103 [strs ws,.sl m (fun j=> [.str (k j)])] h (.bool (decide (ws.length=m∧ ∀i,i<ws.length→ws.getD i []=k i))) h:=by
 obtain⟨R,hR⟩: ∃R,R=decide (ws.length=m∧ ∀i,i<ws.length→ws.getD i []=k i):=⟨_,rfl⟩
 rw[←hR]
 by_cases g:ws.length=m
 ·have k0:((ws.length:Int)=m)=True:=eqt om;refine acO qrJ ?_;simp (disch:=omega) only[qs3,strs,k0,go_sem];refine qn (T:=fun i:Nat=>qI 26 [(0,strs ws),(1,.sl m (fun j=> [.str (k j)])),(5,.int .i64 i)]) (H:=fun _=>h) (inv:=fun i=>i≤ws.length∧ ∀j,j<i→ws.getD j []=k j) (m:=fun i=>ws.length-i) 0 ⟨nzl _,fun j hj=>by omega⟩ (Wk.temps ?_) ?_
  ·(simp only[strs,go_sem,qj,qd,qa,qi];try (repeat' first|(with_reducible apply aiA)|(apply qh;omega)|(apply qg;rfl)|exact qk))
  rintro i ⟨i1,i2⟩ K hK
  by_cases hi:i<ws.length
  ·have k1:((i:Int)<ws.length)=True:=eqt om;have k3:((i:Int)<m)=True:=eqt om;obtain⟨x,hx⟩: ∃x,x=ws.getD i []:=⟨_,rfl⟩
   have ex:=hx.symm
   by_cases e:x=k i
   ·have k2:(x=k i)=True:=eqt e;simp (disch:=omega) only[strs,k1,k2,k3,ex,go_sem]
    repeat' first
     |with_reducible apply aiA
    all_goals try exact clz
    refine hK _ _ (i+1) ⟨hi,fun j hj=> ?_⟩ om (Wk.temps ?_)
    ·by_cases e':j=i
     ·subst e';rw[ex];exact e
     ·exact i2 j om
    ·(simp only[strs,go_sem,qj,qd,qa,qi];try (repeat' first|(with_reducible apply aiA)|(apply qh;omega)|(apply qg;rfl)|exact qk))
   ·have k2:(x=k i)=False:=eqf e;have hV:R=false:=by rw[hR];exact dqf fun hc=>e (by rw[←ex];exact hc.2 i hi)
    rw[hV];simp (disch:=omega) only[strs,k1,k2,k3,ex,go_sem]
    repeat' first
     |(apply qe;exact rvk;simp only[go_sem];exact qk)
     |with_reducible apply aiA
    all_goals try exact clz
  ·have k1:((i:Int)<ws.length)=False:=eqf om;have hV:R=true:=by rw[hR];exact dqt ⟨g,fun j hj=>i2 j om⟩
   rw[hV];simp (disch:=omega) only[strs,k1,go_sem]
   repeat' first
    |(apply qe;exact rvk;simp only[go_sem];exact qk)
 ·have k0:((ws.length:Int)=m)=False:=eqf om;have hV:R=false:=by rw[hR];exact dqf fun hc=>g hc.1
  rw[hV];refine acO qrJ ?_;simp (disch:=omega) only[qs3,strs,k0,go_sem]
  repeat' first
   |(apply qe;exact rvk;simp only[go_sem];exact qk)
theorem qBE(a b:List Str)(h:List AObj)(h1:a.length≤1000000000)(h2:b.length≤1000000000):
  ACalls Tryz.prog 103 [strs a,strs b] h (.bool (decide (a=b))) h:=by
 have c:=smw a b.length (fun j=>b.getD j []) h h1 h2;have e:decide (a.length=b.length∧ ∀i,i<a.length→a.getD i []=b.getD i [])=decide (a=b):=decide_eq_decide.2 (je ([]:Str)).symm;rw[e]at c;exact c
def ke(names:List Str)(gs:List Gr)(e:En):Nat→List Int×Bool
 |0=>(jC names gs e.sup,false)
 |i+1=>(qT (fun k=>decide ((k:Int)∈(ke names gs e i).1)||decide ((k:Int)∈jC names gs (e.vars.getD i default).sigla)) 64,(ke names gs e i).2||(ke names gs e i).1.any fun x=>decide (x∈jC names gs (e.vars.getD i default).sigla))
theorem qaz(names:List Str)(gs:List Gr)(e:En)(i:Nat):ke names gs e (i+1)=(qT (fun k=>decide ((k:Int)∈(ke names gs e i).1)||decide ((k:Int)∈jC names gs (e.vars.getD i default).sigla)) 64,(ke names gs e i).2||(ke names gs e i).1.any fun x=>decide (x∈jC names gs (e.vars.getD i default).sigla)):=rfl
theorem qcg(names:List Str)(gs:List Gr)(sg:List Str):qai 64 (jC names gs sg)=0∧(jC names gs sg).length≤64:=by
 unfold jC;split
 ·exact⟨qcm om,qN _ _⟩
 ·exact⟨rfl,nzl _⟩
theorem qfH(names:List Str)(gs:List Gr)(e:En)(i:Nat):qai 64 (ke names gs e i).1=0∧(ke names gs e i).1.length≤64:=by
 cases i with
 |zero=>exact qcg _ _ _
 |succ i=>rw[qaz];exact⟨qcm om,qN _ _⟩
theorem qoK(L:List Int): ∀(C:List Int) (j:Nat),L.Nodup→(∀x∈L,0≤x∧x<C.length)→j<C.length→(qcx C L).getD j 0=C.getD j 0+if (j:Int)∈L then 1 else 0:=by
 induction L with
 |nil=>intro C j _ _ _;simp[qcx]
 |cons n L ih=>
  intro C j hn hL hj;obtain⟨h1,h2⟩:=List.nodup_cons.1 hn;have hb:=hL n (by simp);show (qcx (C.set n.toNat (C.getD n.toNat 0+1)) L).getD j 0=_;rw[ih _ j h2 (fun x hx=>by rw[List.length_set];exact hL x (by simp[hx])) (by rw[List.length_set];exact hj)]
  by_cases e:(j:Int)=n
  ·have e2:n.toNat=j:=by omega
   have e3: ¬(j:Int)∈L:=by rw[e];exact h1
   rw[ine e3,ipo (by rw[e];simp),e2]
   have:(C.set j (C.getD j 0+1)).getD j 0=C.getD j 0+1:=by
    rw[gdqA,List.getElem?_set_self hj];rfl
   rw[this];omega
  ·have e2: ¬n.toNat=j:=by omega
   have:(C.set n.toNat (C.getD n.toNat 0+1)).getD j 0=C.getD j 0:=by
    rw[gdqA,List.getElem?_set_ne e2,←gdqA]
   rw[this];congr 1;simp[e]
theorem qiy(p:Nat→Bool)(n:Nat):(qT p n).Nodup:=by
 unfold qT;rw[List.Nodup,List.pairwise_map];refine List.Pairwise.imp ?_ (List.Pairwise.filter _ List.nodup_range);intro a b hab hc;exact hab (by have hx:(a:Int)=(b:Int):=hc;omega)
theorem qdo(names:List Str)(gs:List Gr)(sg:List Str):(jC names gs sg).Nodup:=by
 unfold jC;split
 ·exact qiy _ _
 ·exact List.nodup_nil
structure qBv (A:List Int) (B:Bool) (C:List Int):Prop where
 len:C.length=32
 rng: ∀x∈A,0≤x∧x<32
 mem: ∀k:Nat,k<32→((k:Int)∈A↔1≤C.getD k 0)
 nn: ∀k:Nat,k<32→0≤C.getD k 0
 tw:B=true↔ ∃k:Nat,k<32∧1<C.getD k 0
theorem qhi{A O A' C:List Int}{B:Bool}(h:qBv A B C)(ho:O.Nodup)(hr: ∀x∈O,0≤x∧x<32)(hA: ∀x,x∈A'↔x∈A∨x∈O):qBv A' (B||A.any fun x=>decide (x∈O)) (qcx C O):=by
 have hl:=h.len;have hg:=fun (k:Nat) (hk:k<32)=>qoK O C k ho (fun x hx=>by have:=hr x hx;omega) om
 refine⟨by rw[qcc,hl],fun x hx=> ?_,fun k hk=> ?_,fun k hk=> ?_,?_⟩
 ·rcases (hA x).1 hx with hx|hx
  ·exact h.rng x hx
  ·exact hr x hx
 ·rw[hA,h.mem k hk,hg k hk]
  have:=h.nn k hk
  by_cases e:(k:Int)∈O
  ·rw[ipo e];exact⟨fun _=>by omega,fun _=> .inr e⟩
  ·rw[ine e];constructor
   ·rintro (h1|h1)
    ·omega
    ·exact absurd h1 e
   ·intro h1;exact .inl om
 ·rw[hg k hk]
  have:=h.nn k hk
  split<;>omega
 ·rw[Bool.or_eq_true,h.tw,List.any_eq_true];constructor
  ·rintro (⟨k,hk,h1⟩|⟨x,hx,h1⟩)
   ·refine⟨k,hk,?_⟩;rw[hg k hk];split<;>omega
   ·have h1:=of_decide_eq_true h1;have hx2:=h.rng x hx;have e:((x.toNat:Nat):Int)=x:=by omega
    refine⟨x.toNat,om,?_⟩;rw[hg _ om,e,ipo h1]
    have:=(h.mem x.toNat om).1 (by rw[e];exact hx)
    omega
  ·rintro⟨k,hk,h1⟩;rw[hg k hk]at h1
   by_cases e:(k:Int)∈O
   ·rw[ipo e]at h1;exact .inr ⟨(k:Int),(h.mem k hk).2 om,dqt e⟩
   ·rw[ine e]at h1;exact .inl ⟨k,hk,om⟩
theorem quD:qBv [] false (List.replicate 32 0):=by
 have g: ∀k:Nat,k<32→(List.replicate 32 (0:Int)).getD k 0=0:=fun k hk=>by
  rw[gdqA,List.getElem?_replicate,ipo hk];rfl
 refine⟨by simp,fun x hx=>by simp at hx,fun k hk=> ?_,fun k hk=> ?_,?_⟩
 ·rw[g k hk];simp
 ·rw[g k hk];omega
 ·constructor
  ·intro h;cases h
  ·rintro⟨k,hk,h1⟩;rw[g k hk]at h1;omega
theorem qjE(names:List Str)(gs:List Gr)(e:En): ∀i,qBv (ke names gs e i).1 (ke names gs e i).2 (cnt names gs e i):=by
 have hO:=fun sg=>jl (@qg6 names gs sg)
 intro i
 induction i with
 |zero=>
  have:=qhi (A':=jC names gs e.sup) quD (qdo names gs e.sup) (hO e.sup) (fun x=>by simp)
  exact this
 |succ i ih=>
  rw[qaz];unfold cnt;refine qhi ih (qdo _ _ _) (hO _) (fun x=> ?_);rw[qbe];constructor
  ·rintro⟨k,hk,h1,rfl⟩;simpa using h1
  ·intro hx;have hb:0≤x∧x<32:=by
    rcases hx with hx|hx
    ·exact ih.rng x hx
    ·exact hO _ x hx
   have e:((x.toNat:Nat):Int)=x:=by omega
   refine⟨x.toNat,om,?_,e.symm⟩;simp only[e];simpa using hx
theorem qam(names:List Str)(gs:List Gr)(e:En)(i:Nat):qjl (cnt names gs e i)=(ke names gs e i).2:=by
 have h:=qjE names gs e i;unfold qjl;rw[h.len,Bool.eq_iff_iff,h.tw,qG];simp only[decide_eq_true_eq]
end RC
end
