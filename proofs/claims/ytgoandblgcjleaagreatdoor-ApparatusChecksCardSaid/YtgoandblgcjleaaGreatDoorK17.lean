import Derived.Test.YtgoandblgcjleaaGreatDoorK16
import Derived.Test.YtgoandblgcjleaaGreatDoorK15
import Derived.Test.YtgoandblgcjleaaGreatDoorK14
import Derived.Test.YtgoandblgcjleaaGreatDoorK13
import Derived.Test.YtgoandblgcjleaaGreatDoorK11
import Derived.Test.YtgoandblgcjleaaGreatDoorK12
import Derived.Test.YtgoandblgcjleaaGreatDoorK10
import Derived.Test.YtgoandblgcjleaaGreatDoorK8
import Derived.Test.YtgoandblgcjleaaGreatDoorK3
import Derived.Test.YtgoandblgcjleaaGreatDoorK5
import Derived.Test.YtgoandblgcjleaaGreatDoorProg
set_option linter.all false
set_option linter.unusedSimpArgs false
set_option linter.unusedVariables false
set_option linter.unusedSectionVars false
set_option maxHeartbeats 256000000
set_option maxRecDepth 100000
section
open Go Go.Proofs AF HY LN
namespace RC
theorem qeY{names:List Str}{gs:List Gr}(h:qlN names gs=false)(hs:sgE names gs=0):names.length≤8∧gs.length≤8:=by
 have ho:=qdB hs;have h1:=ho.n32;have h2:=ho.g16;unfold qlN at h;simp only[Bool.or_eq_false_iff,Bool.and_eq_false_iff,decide_eq_false_iff_not]at h;omega
theorem qsj{names:List Str}{gs:List Gr}(h:qlN names gs=false):Szs names gs:=by
 obtain⟨h1,h2,h3,h4⟩:=qlO h;exact⟨om,om,fun i=>by have:=h3 i;omega,fun i=>by have:=(h4 i).1;omega,fun i=>by have:=(h4 i).2;omega⟩
theorem qyu{α β:Type}{p:Nat→Bool}{g:Nat→α}{k:Nat→β}: ∀ {n i:Nat} (hi:i<(flG p g n).length),∃r,r<n∧p r=true∧(flG p g n)[i]=g r∧(flG p k n)[i]? =some (k r):=by
 intro n
 induction n with
 |zero=>intro i hi;exact absurd hi (nnz _)
 |succ n ih=>
  intro i hi;have e1:flG p g (n+1)=flG p g n++(if p n=true then [g n] else []):=rfl;have e2:flG p k (n+1)=flG p k n++(if p n=true then [k n] else []):=rfl;have el:=qlu p g k n
  by_cases hl:i<(flG p g n).length
  ·obtain⟨r,r1,r2,r3,r4⟩:=ih hl;refine⟨r,om,r2,?_,?_⟩
   ·simp only[e1];rw[List.getElem_append_left hl];exact r3
   ·rw[e2,List.getElem?_append_left om];exact r4
  ·cases hp:p n with
   |false=>
    rw[e1,hp,ine (by simp),lan]at hi;exact absurd hi hl
   |true=>
    have hi2:i=(flG p g n).length:=by
     rw[e1,hp,ipo rfl,lap,List.length_singleton]at hi;omega
    refine⟨n,om,hp,?_,?_⟩
    ·simp only[e1,hp,if_true];rw[List.getElem_append_right om];simp[hi2]
    ·rw[e2,hp,ipo rfl,List.getElem?_append_right om];simp[hi2,el]
theorem qA1{a:Ap}(hl:lyE a.lay=0)(k y:Nat)(n:Nat):vrG a k y n=flG (vtB (a.l.getD k default).rds (a.cls.getD k []) (qwA a k) a.lay y) (fun r=>(⟨((a.l.getD k default).rds.getD r default).words,shR a.x.sig a.gs ((a.l.getD k default).rds.getD r default).src⟩:Va)) n:=by
 induction n with
 |zero=>rfl
 |succ n ih=>
  unfold vrG flG;rw[ih];congr 1;unfold vtB lyR;rw[ipo hl]
  by_cases h1:lyN a.lay ((a.cls.getD k []).getD n [])=y
  ·by_cases h2:((a.l.getD k default).rds.getD n default).words=qwA a k
   ·rw[ine (fun h=>h.2 h2),dqt h1,dqt h2,ine (by simp)]
   ·rw[ipo ⟨h1,h2⟩,dqt h1,dqf h2,ipo (by simp)]
  ·rw[ine (fun h=>h1 h.1),dqf h1,ine (by simp)]
def qdD(L:List Va):List AV:=L.flatMap vaC
theorem qhJ(L:List Va):(qdD L).length=L.length*2:=by
 induction L with
 |nil=>rfl
 |cons a L ih=>show (vaC a++qdD L).length=_;rw[lap,ih];simp[vaC];omega
theorem qrl(A B:List Va):qdD (A++B)=qdD A++qdD B:=by simp[qdD]
theorem qrm{L:List Va}: ∀ {i:Nat},i<L.length→((qdD L).drop (i*2)).take 2=vaC (L.getD i default):=by
 induction L with
 |nil=>intro i h;exact absurd h (nnz _)
 |cons a L ih=>
  intro i h;cases i with
  |zero=>rfl
  |succ i=>
   have e:(i+1)*2=i*2+1+1:=by omega
   rw[e];show ((strs a.words::strs a.sigla::qdD L).drop (i*2+1+1)).take 2=_;rw[List.drop_succ_cons,List.drop_succ_cons];exact ih (by simpa using h)
theorem qqU{v n:Nat}{L:List Va}{fz:Nat→Bool}{h:List AObj}{d:Nat}(hn:n=L.length):VLe (qeh (some (zP v 85 (qdD L))) v 2 0 n (rei fz h (d+1))) (qW L):=by
 subst hn
 by_cases h0:L= []
 ·subst h0;show VLe (qeh (some (.emp v)) v 2 0 0 _) _;rw[slOf_emp,ipo rfl];exact jf
 ·have e0:zP v 85 (qdD L)= .mem v 85 (qdD L):=jJ (fun e=>h0 (by
   cases L with
   |nil=>rfl
   |cons a L=>cases e))
  rw[e0,slOf_mem,ipo ⟨rfl,by rw[qhJ];omega⟩];refine VLe.sl_eq rfl (fun i hi=> ?_);simp only[Nat.zero_add];rw[qrm hi];rfl
theorem qnk{v n:Nat}{L:List En}{fz:Nat→Bool}{h:List AObj}{d:Nat}(hn:n=L.length):VLe (qeh (some (zP v 58 (jh L))) v 6 0 n (rei fz h (d+1))) (zg L):=by
 by_cases h0:L= []
 ·subst h0;subst hn;show VLe (qeh (some (.emp v)) v 6 0 0 _) _;rw[slOf_emp,ipo rfl];exact jf
 ·have e0:zP v 58 (jh L)= .mem v 58 (jh L):=jJ (fun e=>h0 (by
   cases L with
   |nil=>rfl
   |cons a L=>cases e))
  rw[e0];exact qqS hn
theorem qEj(r:Rd)(own:List Str)(h:List AObj)(h1:r.words.length≤1000000000)(h2:own.length≤1000000000):ACalls Tryz.prog 162 [.agg (rdC r),.ip [strs own]] h (.bool (decide (r.words=own))) h:=by
 have c1:=fun h=>qAL r.words own h h1 h2
 unfold strs at c1;refine acO qyM ?_;simp (disch:=omega) only[qw7,rdC,strs,go_sem]
 repeat' first
  |(refine cA (c1 _) flk ?_;simp (disch:=omega) only[go_sem])
  |(apply qb;exact rvk;simp only[go_sem];exact qk)
  |with_reducible apply aiA
 all_goals try exact clz
theorem qCA(L:List Rd)(own:List Str)(k v:Nat)(h:List AObj)(hk:qA k h=some (.mem v 22 [strs own]))(hl:L.length≤1000000000)(hw: ∀j,(L.getD j default).words.length≤1000000000)(ho:own.length≤1000000000):
  ACalls Tryz.prog 127 [jo L,.fn (.func 162) [] [.op k v 0]] h (.int .i64 (j8 (fun r=>decide ((L.getD r default).words=own)) L.length 0)) h:=by
 have hc:=qQ hk;unfold jo;refine qba qrS L.length (fun j=>rdC (L.getD j default)) (fun j=> .agg (rdC (L.getD j default))) _ [] [.op k v 0] _ h (fun i _=>⟨rfl,by simp[ji,rdC],rfl,rfl,rfl⟩) (fun i _=> ?_) om;refine ACalls.borrow ?_ rfl;have e:([AV.agg (rdC (L.getD i default))]++ [AV.op k v 0]).map (rei (fun _=>true) h 8)= [.agg (rdC (L.getD i default)),.ip [strs own]]:=by
  simp only[lca,lna,List.map_cons,List.map_nil,rei_op,if_true,hc,ipOf_some,List.drop_zero,rei_agg];rfl
 rw[lna,e];exact qEj _ own _ (hw i) ho
theorem spK{a:Ap}(h:qwH a.x a.l a.b){k:Nat}(hk:k<a.l.length):spF a.b k (a.l.getD k default).frm=(frK a k:Int)∧spT a.b k (a.l.getD k default).frm=(toK a k:Int):=by
 obtain⟨F,G,hFG,hG,hb,hq,e1,e2⟩:=qhF h hk;have f1:frK a k=F:=e1;have f2:toK a k=G:=by
  unfold toK;rw[f1,e2];omega
 rw[f1,f2];have hi:=quw hG hq;unfold spF spT qq2 qq3
 by_cases hlt:F<G
 ·rw[ipo hlt]at hi;have hk1:qc0 (inU a.b k) a.b.length F=G:=qkx hFG hG (fun j h1 h2=>(hq j om).2 ⟨h1,h2⟩) fun h3=>by
   cases e:inU a.b k G with
   |false=>rfl
   |true=>exact absurd ((hq G h3).1 e).2 (Nat.lt_irrefl _)
  have hbe:qoG (inU a.b k) a.b.length F=false:=by
   unfold qoG;rw[hk1];refine qo.2 fun i hi=> ?_
   by_cases g:G≤i
   ·cases e:inU a.b k i with
    |false=>rw[Bool.and_false]
    |true=>have:=((hq i hi).1 e).2;omega
   ·rw[dqf g,Bool.false_and]
  have hE:qgw (inU a.b k) a.b.length=0:=by
   unfold qgw;rw[hi,ine om,itn,hbe,ine (by simp)]
  rw[hE,ipo rfl,ipo rfl,ipo rfl,ipo rfl,hi,itn,hk1];exact⟨rfl,rfl⟩
 ·rw[ine hlt]at hi;have hE:qgw (inU a.b k) a.b.length=6:=by
   unfold qgw;rw[hi];rfl
  rw[hE,ine (by decide),ine (by decide),e1];exact⟨rfl,om⟩
theorem qnP{t:List Str}{f d:Nat}(h:f+d<t.length):qaQ t f (f+(d+1))=qaQ t f (f+d)++ [t.getD (f+d) []]:=by
 unfold qaQ;rw[show f+(d+1)-f=d+1 by omega,show f+d-f=d by omega,List.take_add_one];congr 1;rw[List.getElem?_drop,gdqA,zp h];rfl
structure ES where
 i:Nat
 v:Nat
 O6:AObj
 O7:AObj
 O8:AObj
 O9:AObj
 e10:Nat
 O11:AObj
 O12:AObj
 O13:AObj
 e14:Nat
 O15:AObj
theorem qhK(L:List Va)(n:Nat): ∀c∈qdD L,lowV n c=true:=by
 intro c hc;unfold qdD at hc;obtain⟨x,_,hx⟩:=List.mem_flatMap.1 hc;simp only[vaC,List.mem_cons,List.not_mem_nil,or_false]at hx;rcases hx with rfl|rfl<;>rfl
theorem qt8(a:Ap)(k y:Nat):(enU a k++enY a k y).length≤k*a.lay.length+y:=by
 have h1: ∀k n,(enY a k n).length≤n:=by
  intro k n
  induction n with
  |zero=>exact nlr _
  |succ n ih=>
   show (enY a k n++if vrK a k n= [] then [] else [enK a k n]).length≤_;rw[lap];split
   ·simp only[lnl];omega
   ·simp only[lco,lnl];omega
 have h2: ∀n,(enU a n).length≤n*a.lay.length:=by
  intro n
  induction n with
  |zero=>exact nzl _
  |succ n ih=>
   show (enU a n++enY a n a.lay.length).length≤_;rw[lap,Nat.add_mul,Nat.one_mul]
   have:=h1 n a.lay.length
   omega
 rw[lap]
 have:=h1 k y
 have:=h2 k
 omega
structure EY where
 y:Nat
 v:Nat
 O11:AObj
 O12:AObj
 O13:AObj
 e14:Nat
 O15:AObj
theorem qEk(a:Ap)(h:List AObj)(hz:qBG a)(hp:qag SG h):
  ACalls Tryz.prog 96 [.agg (coC a.x),zf a.l,qaN a.cls,qZ a.b,qu a.gs,strs a.lay,qaY a.pos] h (.tup [zg (enR a),.int .i64 (enE a)]) h:=by
 have hsz:=qsj hz.g42;have z1:=hz.l12;have z2:=hz.b14;have z3:=hz.y18;have z4:=hz.p20;have z5:=hz.c12;have c38:=fun l'=>pvP a.x a.l a.b (h++l') hz.co hz.un om (fun i=>by have:=hz.bt i;omega) (hp.app l')
 have c122:=fun h=>sgP a.x.sig a.gs h hsz
 have c27:=fun h=>lyP a.lay [] h om (fun i=>by have:=hz.yl i;omega)
 have nl0:VLe AV.nl (zg []):=jf;obtain⟨R,hR⟩: ∃R,R=enR a:=⟨_,rfl⟩
 obtain⟨E,hE⟩: ∃E,E=enE a:=⟨_,rfl⟩
 rw[←hR,←hE];unfold enR at hR;rw[←hE]at hR;unfold enE at hE;unfold coC zf qZ strs at c38;unfold strs at c122 c27
 by_cases g1:pvE a.x a.l a.b=0
 case neg=>
  have k1:(pvE a.x a.l a.b=0)=False:=eqf g1;rw[ipo g1]at hE;rw[hE,ine g1]at hR;rw[hR,hE];refine acO qir ?_;simp (disch:=omega) only[qtw,coC,zf,qaN,strs,qaY,qZ,go_sem]
  repeat' first
   |(refine cA (c38 _) flk ?_;simp (disch:=omega) only[k1,go_sem])
   |(apply qb;exact rvk;simp only[go_sem])
  exact qL ⟨nl0,qk,trivial⟩
 rw[ine (fun hc=>hc g1)]at hE;rw[g1]at c38
 by_cases g2:sgE a.x.sig a.gs=0
 case neg=>
  have k2:(sgE a.x.sig a.gs=0)=False:=eqf g2;rw[ipo g2]at hE;rw[hE,ine (by decide)]at hR;rw[hR,hE];refine acO qir ?_;simp (disch:=omega) only[qtw,coC,zf,qaN,strs,qaY,qZ,go_sem]
  repeat' first
   |((first|refine cA (c38 _) ?_ ?_|refine cA (c122 _) ?_ ?_);exact flk;simp (disch:=omega) only[k2,go_sem])
   |(apply qb;exact rvk;simp only[go_sem])
   |with_reducible apply aiA
  all_goals try exact clz
  exact qL ⟨nl0,qk,trivial⟩
 rw[ine (fun hc=>hc g2)]at hE;rw[g2]at c122
 by_cases g3:lyE a.lay=0
 case neg=>
  have k3:(lyE a.lay=0)=False:=eqf g3;rw[ipo g3]at hE;rw[hE,ine g3]at hR;rw[hR,hE];refine acO qir ?_;simp (disch:=omega) only[qtw,coC,zf,qaN,strs,qaY,qZ,go_sem]
  repeat' first
   |((first|refine cA (c38 _) ?_ ?_|refine cA (c122 _) ?_ ?_|refine cA (c27 _) ?_ ?_);exact flk;simp (disch:=omega) only[k3,go_sem])
   |(apply qb;exact rvk;simp only[go_sem])
   |with_reducible apply aiA
  all_goals try exact clz
  exact qL ⟨nl0,qk,trivial⟩
 rw[ine (fun hc=>hc g3)]at hE;rw[g3]at c27
 by_cases g4:a.pos.length=a.lay.length
 case neg=>
  have k4:((a.pos.length:Int)=a.lay.length)=False:=eqf om;rw[ipo (.inl g4)]at hE;rw[hE,ine (by decide)]at hR;rw[hR,hE];refine acO qir ?_;simp (disch:=omega) only[qtw,coC,zf,qaN,strs,qaY,qZ,go_sem]
  repeat' first
   |((first|refine cA (c38 _) ?_ ?_|refine cA (c122 _) ?_ ?_|refine cA (c27 _) ?_ ?_);exact flk;simp (disch:=omega) only[k4,go_sem])
   |(apply qb;exact rvk;simp only[go_sem])
   |with_reducible apply aiA
  all_goals try exact clz
  exact qL ⟨nl0,qk,trivial⟩
 have k4:((a.pos.length:Int)=a.lay.length)=True:=eqt om
 by_cases g5:a.cls.length=a.l.length
 case neg=>
  have k5:((a.cls.length:Int)=a.l.length)=False:=eqf om;rw[ipo (.inr g5)]at hE;rw[hE,ine (by decide)]at hR;rw[hR,hE];refine acO qir ?_;simp (disch:=omega) only[qtw,coC,zf,qaN,strs,qaY,qZ,go_sem]
  repeat' first
   |((first|refine cA (c38 _) ?_ ?_|refine cA (c122 _) ?_ ?_|refine cA (c27 _) ?_ ?_);exact flk;simp (disch:=omega) only[k4,k5,go_sem])
   |(apply qb;exact rvk;simp only[go_sem])
   |with_reducible apply aiA
  all_goals try exact clz
  exact qL ⟨nl0,qk,trivial⟩
 have k5:((a.cls.length:Int)=a.l.length)=True:=eqt om;rw[ine (by rintro (h|h)<;>contradiction)]at hE;refine acO qir ?_;simp (disch:=omega) only[qtw,coC,zf,qaN,strs,qaY,qZ,go_sem]
 repeat' first
  |((first|refine cA (c38 _) ?_ ?_|refine cA (c122 _) ?_ ?_|refine cA (c27 _) ?_ ?_);exact flk;simp (disch:=omega) only[k4,k5,go_sem])
  |with_reducible apply aiA
 all_goals try exact clz
 have vv:(∀j,j<a.l.length→(a.cls.getD j []).length=(a.l.getD j default).rds.length)→E=0:=fun hx=>by
  rw[hE,qo.2 (fun j hj=>by rw[dqt (hx j hj)];rfl),ine (by simp)]
 refine qn (T:=fun i:Nat×AObj=>qI 200 [(1,zf a.l),(2,qaN a.cls),(3,qZ a.b),(5,strs a.lay),(6,qaY a.pos),(7,.op h.length 1 0),(11,.op (h.length+1) 1 0),(14,.op (h.length+2) 1 0),(15,.op (h.length+3) 1 0),(69,zf a.l),(70,.int .i64 a.l.length),(71,.int .i64 i.1)])
  (H:=fun i=>h++ [.mem 1 26 (coC a.x),.mem 1 44 [qu a.gs],.mem 1 49 [.nl],.mem 1 35 [.int .i64 0],i.2,.emp 0,.emp 0,.emp 0,.emp 0,.emp 0,.emp 0,.emp 0,.emp 0,.emp 0,.emp 0,.emp 0,.emp 0])
  (inv:=fun i=>i.1≤a.l.length∧qC [i.2] 0=true∧ ∀j,j<i.1→(a.cls.getD j []).length=(a.l.getD j default).rds.length) (m:=fun i=>a.l.length-i.1) (0,.emp 0) ⟨nzl _,rfl,fun j hj=>absurd hj (nnz j)⟩ (Wk.temps ?_) ?_
 ·(simp only[zf,qaN,qZ,strs,qaY,go_sem,qj,qd,qa,qi];try (repeat' first|(with_reducible apply aiA)|(apply qh;omega)|(apply qg;rfl)|exact qk))
 rintro⟨i,O4⟩ ⟨i1,i2,i3⟩ K hK;simp only at i1 i2 i3 hK;have i2': ∀m,qC (O4::m) 0=true:=fun _=>i2
 by_cases hi:i<a.l.length
 ·have k6:((i:Int)<a.l.length)=True:=eqt om;have k7:((i:Int)<a.cls.length)=True:=eqt om;have hbad: ¬(a.cls.getD i []).length=(a.l.getD i default).rds.length→E=9:=fun hx=>by
   rw[hE,qG.2 ⟨i,hi,by rw[dqf hx];rfl⟩,ipo rfl]
  have hS:(a.cls.getD i []).length=(a.l.getD i default).rds.length→ ∀j,j<i+1→(a.cls.getD j []).length=(a.l.getD j default).rds.length:=fun hx j hj=>by
   by_cases e:j=i
   ·subst e;exact hx
   ·exact i3 j om
  obtain⟨u,hu⟩: ∃u,u=a.l.getD i default:=⟨_,rfl⟩
  have eu:=hu.symm;obtain⟨c,hc⟩: ∃c,c=a.cls.getD i []:=⟨_,rfl⟩
  have ec:=hc.symm;rw[eu,ec]at hbad hS
  by_cases g6:c.length=u.rds.length
  ·have k8:((c.length:Int)=u.rds.length)=True:=eqt om;simp (disch:=omega) only[zf,qaN,strs,unC,jo,k6,k7,k8,eu,ec,i2',go_sem]
   repeat' first
    |with_reducible apply aiA
   all_goals try exact clz
   refine hK _ _ (i+1,.mem (qr (some O4)+1) 83 (unC u)) ⟨hi,rfl,hS g6⟩ (by simp only;omega) (Wk.temps ?_)
   (simp only[zf,qaN,qZ,strs,qaY,go_sem,qj,qd,qa,qi];try (repeat' first|(with_reducible apply aiA)|(apply qh;omega)|(apply qg;rfl)|exact qk))
  ·have k8:((c.length:Int)=u.rds.length)=False:=eqf om;have hE9:=hbad g6;rw[hE9,ine (by decide)]at hR;rw[hR,hE9];simp (disch:=omega) only[zf,qaN,strs,unC,jo,k6,k7,k8,eu,ec,i2',go_sem]
   repeat' first
    |(apply qb;exact rvk;simp only[go_sem])
    |with_reducible apply aiA
   all_goals try exact clz
   exact qL ⟨nl0,qk,trivial⟩
 have k6:((i:Int)<a.l.length)=False:=eqf om;have hE0:E=0:=vv fun j hj=>i3 j om
 have hcl: ∀j,j<a.l.length→(a.cls.getD j []).length=(a.l.getD j default).rds.length:=fun j hj=>i3 j om
 rw[hE0,ipo rfl]at hR;rw[hR,hE0];clear hK hE hE0 vv hR i3;have hok:=qAC g1;simp (disch:=omega) only[zf,k6,go_sem];refine qn (T:=fun s:ES=>qI 200 [(2,qaN a.cls),(3,qZ a.b),(5,strs a.lay),(6,qaY a.pos),(7,.op h.length 1 0),(11,.op (h.length+1) 1 0),(14,.op (h.length+2) 1 0),(15,.op (h.length+3) 1 0),(21,.osl (h.length+5) s.v 6 0 (enU a s.i).length),(86,zf a.l),(87,.int .i64 a.l.length),(88,.int .i64 s.i)])
  (H:=fun s=>h++ [.mem 1 26 (coC a.x),.mem 1 44 [qu a.gs],.mem 1 49 [.nl],.mem 1 35 [.int .i64 0],O4,zP s.v 58 (jh (enU a s.i)),s.O6,s.O7,s.O8,s.O9,.emp s.e10,s.O11,s.O12,s.O13,.emp s.e14,s.O15,.emp 0])
  (inv:=fun s=>s.i≤a.l.length∧qC [s.O6] 0=true∧qC [s.O7] 0=true∧qC [s.O8] 0=true∧qC [s.O9] 0=true∧qC [s.O11] 0=true∧qC [s.O12] 0=true∧qC [s.O13] 0=true∧qC [s.O15] 0=true) (m:=fun s=>a.l.length-s.i) ⟨0,1,.emp 0,.emp 0,.emp 0,.emp 0,0,.emp 0,.emp 0,.emp 0,0,.emp 0⟩ ⟨nzl _,rfl,rfl,rfl,rfl,rfl,rfl,rfl,rfl⟩ (Wk.temps ?_) ?_
 ·(simp only[zf,qaN,qZ,strs,qaY,enU,lnl,go_sem,qj,qd,qa,qi];try (repeat' first|(with_reducible apply aiA)|(apply qh;omega)|(apply qg;rfl)|exact qk))
 rintro⟨k,v,O6,O7,O8,O9,e10,O11,O12,O13,e14,O15⟩ ⟨s1,p6,p7,p8,p9,p11,p12,p13,p15⟩ K hK;simp only at s1 p6 p7 p8 p9 p11 p12 p13 p15 hK;have p6': ∀m,qC (O6::m) 0=true:=fun _=>p6
 have p7': ∀m,qC (O7::m) 0=true:=fun _=>p7
 have p8': ∀m,qC (O8::m) 0=true:=fun _=>p8
 have p9': ∀m,qC (O9::m) 0=true:=fun _=>p9
 have p11': ∀m,qC (O11::m) 0=true:=fun _=>p11
 have p12': ∀m,qC (O12::m) 0=true:=fun _=>p12
 have p13': ∀m,qC (O13::m) 0=true:=fun _=>p13
 have p15': ∀m,qC (O15::m) 0=true:=fun _=>p15
 by_cases hk:k<a.l.length
 case neg=>
  have k7:((k:Int)<a.l.length)=False:=eqf om;obtain rfl:k=a.l.length:=by omega
  simp (disch:=omega) only[zf,k7,go_sem]
  repeat' first
   |(apply qb;exact rvk;simp only[go_sem])
  exact qL ⟨qnk rfl,qk,trivial⟩
 have k7:((k:Int)<a.l.length)=True:=eqt om;have k8:((k:Int)<a.cls.length)=True:=eqt om;have hcu:=hcl k hk;obtain⟨e1,e2⟩:=spK hok hk;obtain⟨f1,f2,_,_⟩:=qlr hok hk;have hown:=quY hok hk;have c160:=fun h=>qCT a.b (k:Int) (a.l.getD k default) h om
 rw[e1,e2]at c160;obtain⟨u,hu⟩: ∃u,u=a.l.getD k default:=⟨_,rfl⟩
 have eu:=hu.symm;obtain⟨F,hF⟩: ∃F,F=frK a k:=⟨_,rfl⟩
 obtain⟨G,hG⟩: ∃G,G=toK a k:=⟨_,rfl⟩
 rw[←hF,←hG]at hown f1;rw[←hG]at f2;simp only[←hF,←hG,eu]at c160;unfold qZ unC at c160;have q1:((F:Int)≤G)=True:=eqt om;have q2:((G:Int)≤a.b.length)=True:=eqt om;have q3:(0≤(F:Int))=True:=eqt om;simp (disch:=omega) only[zf,qZ,unC,wdC,k7,eu,p6',go_sem]
 repeat' first
  |(refine cA (c160 _) flk ?_;simp (disch:=omega) only[q1,q2,q3,p7',itn,go_sem])
  |with_reducible apply aiA
 all_goals try exact clz
 obtain⟨v6,hv6⟩: ∃v6,v6=qr (some O6)+1:=⟨_,rfl⟩
 obtain⟨v7,hv7⟩: ∃v7,v7=qr (some O7)+1:=⟨_,rfl⟩
 simp only[←hv6,←hv7];have t0:qaQ (qgG a.b) F (F+0)= []:=by unfold qaQ;simp
 have tl:(qgG a.b).length=a.b.length:=by unfold qgG;simp
 refine qn (T:=fun s:Nat×Nat×AObj×AObj=>qI 200 [(2,qaN a.cls),(3,qZ a.b),(5,strs a.lay),(6,qaY a.pos),(7,.op h.length 1 0),(11,.op (h.length+1) 1 0),(14,.op (h.length+2) 1 0),(15,.op (h.length+3) 1 0),(22,.int .i64 (k:Int)),(23,.op (h.length+6) v6 0),(24,.int .i64 (F:Int)),(25,.int .i64 (G:Int)),(26,.op (h.length+7) v7 0),(86,zf a.l),(87,.int .i64 a.l.length),(88,.int .i64 (k:Int)),(21,.osl (h.length+5) v 6 0 (enU a k).length),(103,.sl (G-F) fun j=>wdC (a.b.getD (F+j) default)),(104,.int .i64 ((G-F:Nat):Int)),(105,.int .i64 s.1)])
  (H:=fun s=>h++ [.mem 1 26 (coC a.x),.mem 1 44 [qu a.gs],.mem 1 49 [.nl],.mem 1 35 [.int .i64 0],O4,zP v 58 (jh (enU a k)),.mem v6 83 (unC u),.mem v7 22 [.osl (h.length+10) s.2.1 1 0 s.1],s.2.2.1,s.2.2.2,zP s.2.1 9 (zY (qaQ (qgG a.b) F (F+s.1))),O11,O12,O13,.emp e14,O15,.emp 0])
  (inv:=fun s=>s.1≤G-F∧qC [s.2.2.1] 0=true∧qC [s.2.2.2] 0=true) (m:=fun s=>G-F-s.1) (0,e10,O8,O9) ⟨nzl _,p8,p9⟩
  (Wk.trans (Wk.ownNil (j:=h.length+7) (i:=0) (k:=h.length+10) (v:=v7) (ty:=22) (cs:= [.nl]) (ve:=e10) (sz:=1) ?c1 rfl ?c2) ?c3) ?c4
 case c1=>simp only[go_sem]
 case c2=>simp only[go_sem]
 case c3=>
  have eo:zP e10 9 (zY (qaQ (qgG a.b) F (F+0)))= .emp e10:=by rw[t0];rfl
  have eo2:zP e10 9 (zY (qaQ (qgG a.b) F F))= .emp e10:=eo;simp only[go_sem,eo2,List.set_cons_zero,unC];refine Wk.temps ?_
  (simp only[zf,qaN,qZ,wdC,strs,qaY,unC,go_sem,qj,qd,qa,qi];try (repeat' first|(with_reducible apply aiA)|(apply qh;omega)|(apply qg;rfl)|exact qk))
 case c4=>
 rintro⟨j,w,O8,O9⟩ ⟨j1,p8,p9⟩ K2 hK2;simp only at j1 p8 p9 hK2;have p8': ∀m,qC (O8::m) 0=true:=fun _=>p8
 have p9': ∀m,qC (O9::m) 0=true:=fun _=>p9
 have hsl:=qem (t:=qgG a.b) (f:=F) (g:=F+j) om om
 by_cases hj:j<G-F
 ·have r1:((j:Int)<((G-F:Nat):Int))=True:=eqt om;have hsn:=qnP (t:=qgG a.b) (f:=F) (d:=j) om;have htx:(qgG a.b).getD (F+j) []=(a.b.getD (F+j) default).text:=by
   unfold qgG;rw[gdqA,List.getElem?_map,gdqA,zp (show F+j<a.b.length by omega)];rfl
  obtain⟨wd,hwd⟩: ∃wd,wd=a.b.getD (F+j) default:=⟨_,rfl⟩
  have ewd:=hwd.symm;rw[htx,ewd]at hsn;obtain⟨S,hS⟩: ∃S,S=qaQ (qgG a.b) F (F+j):=⟨_,rfl⟩
  have eS:=hS.symm;rw[eS]at hsn hsl;have hsl:S.length=j:=by omega
  have eC:=jb S;have eTk:List.take j (zY S)=zY S:=ltl om;rw[hsl]at eC;simp (disch:=omega) only[wdC,r1,ewd,eS,p8',p9',eC,eTk,Nat.mul_one,go_sem]
  repeat' first
   |with_reducible apply aiA
  all_goals try exact clz
  have eA:zY S++ [AV.str wd.text]=zY (qaQ (qgG a.b) F (F+(j+1))):=by rw[hsn,qaF];rfl
  try rw[eA]
  refine hK2 _ _ (j+1,w+1,.mem (qr (some O8)+1) 64 (wdC wd),.mem (qr (some O9)+1) 9 [.str wd.text]) ⟨hj,rfl,rfl⟩ (by simp only;omega) ?_;simp only[wdC];refine Wk.temps ?_
  (simp only[zf,qaN,qZ,wdC,strs,qaY,unC,go_sem,qj,qd,qa,qi];try (repeat' first|(with_reducible apply aiA)|(apply qh;omega)|(apply qg;rfl)|exact qk))
 ·have r1:((j:Int)<((G-F:Nat):Int))=False:=eqf om;obtain rfl:j=G-F:=by omega
  have hG2:F+(G-F)=G:=by omega
  rw[hG2,←hown];rw[hG2,←hown]at hsl;clear hK2;simp (disch:=omega) only[strs,r1,go_sem];obtain⟨W,hW⟩: ∃W,W=qwA a k:=⟨_,rfl⟩
  have eW:=hW.symm;rw[eW]at hsl ⊢;have hWl:W.length=G-F:=by omega
  have hWb:W.length≤1000000000:=by omega
  have hy0:enU a k++enY a k 0=enU a k:=by show enU a k++ []=_;simp
  refine qn (T:=fun s:EY=>qI 200 [(2,qaN a.cls),(3,qZ a.b),(5,strs a.lay),(6,qaY a.pos),(7,.op h.length 1 0),(11,.op (h.length+1) 1 0),(14,.op (h.length+2) 1 0),(15,.op (h.length+3) 1 0),(22,.int .i64 (k:Int)),(23,.op (h.length+6) v6 0),(24,.int .i64 (F:Int)),(25,.int .i64 (G:Int)),(26,.op (h.length+7) v7 0),(86,zf a.l),(87,.int .i64 a.l.length),(88,.int .i64 (k:Int)),(21,.osl (h.length+5) s.v 6 0 (enU a k++enY a k s.y).length),(116,.int .i64 a.lay.length),(117,.int .i64 s.y)])
   (H:=fun s=>h++ [.mem 1 26 (coC a.x),.mem 1 44 [qu a.gs],.mem 1 49 [.nl],.mem 1 35 [.int .i64 0],O4,zP s.v 58 (jh (enU a k++enY a k s.y)),.mem v6 83 (unC u),.mem v7 22 [strs W],O8,O9,.emp (w+1),s.O11,s.O12,s.O13,.emp s.e14,s.O15,.emp 0])
   (inv:=fun s=>s.y≤a.lay.length∧qC [s.O11] 0=true∧qC [s.O12] 0=true∧qC [s.O13] 0=true∧qC [s.O15] 0=true) (m:=fun s=>a.lay.length-s.y) ⟨0,v,O11,O12,O13,e14,O15⟩ ⟨nzl _,p11,p12,p13,p15⟩
   (Wk.trans (Wk.fzCell (j:=h.length+7) (k:=h.length+10) (i:=0) (v:=v7) (ty:=22) (cs:= [.osl (h.length+10) w 1 0 (G-F)]) (c:= .osl (h.length+10) w 1 0 (G-F)) (c':=strs W) ?d1 rfl ?d2 om ?d3) ?d4) ?d5
  case d1=>simp only[go_sem]
  case d2=>simp only[go_sem]
  case d3=>
   rw[qch,getO_app];exact qei (fun _=>rfl) hWl.symm
  case d4=>
   simp only[go_sem,hy0,List.set_cons_zero,unC];refine Wk.temps ?_
   (simp only[zf,qaN,qZ,wdC,strs,qaY,unC,go_sem,qj,qd,qa,qi];try (repeat' first|(with_reducible apply aiA)|(apply qh;omega)|(apply qg;rfl)|exact qk))
  case d5=>
  rintro⟨y,v,O11,O12,O13,e14,O15⟩ ⟨y1,p11,p12,p13,p15⟩ K3 hK3;simp only at y1 p11 p12 p13 p15 hK3;have p11': ∀m,qC (O11::m) 0=true:=fun _=>p11
  have p12': ∀m,qC (O12::m) 0=true:=fun _=>p12
  have p13': ∀m,qC (O13::m) 0=true:=fun _=>p13
  have p15': ∀m,qC (O15::m) 0=true:=fun _=>p15
  have hys:enY a k (y+1)=enY a k y++if vrK a k y= [] then [] else [enK a k y]:=rfl
  by_cases hy:y<a.lay.length
  case neg=>
   have r2:((y:Int)<a.lay.length)=False:=eqf om;obtain rfl:y=a.lay.length:=by omega
   have hus:enU a k++enY a k a.lay.length=enU a (k+1):=rfl;rw[hus];simp (disch:=omega) only[strs,r2,go_sem];refine hK _ _ ⟨k+1,v,.mem v6 83 (unC u),.mem v7 22 [strs W],O8,O9,w+1,O11,O12,O13,e14,O15⟩ ⟨hk,rfl,rfl,p8,p9,p11,p12,p13,p15⟩ (by simp only;omega) ?_;simp only[unC];refine Wk.temps ?_
   (simp only[zf,qaN,qZ,wdC,strs,qaY,unC,go_sem,qj,qd,qa,qi];try (repeat' first|(with_reducible apply aiA)|(apply qh;omega)|(apply qg;rfl)|exact qk))
  have r2:((y:Int)<a.lay.length)=True:=eqt om;have r3:((y:Int)<a.pos.length)=True:=eqt om;obtain⟨pb,hpb⟩: ∃pb,pb=a.pos.getD y false:=⟨_,rfl⟩
  have epb:=hpb.symm;obtain⟨cl,hclx⟩: ∃cl,cl=a.cls.getD k []:=⟨_,rfl⟩
  have ecl:=hclx.symm;simp (disch:=omega) only[strs,qaY,r2,r3,epb,p11',go_sem]
  repeat' first
   |with_reducible apply aiA
  all_goals try exact clz
  obtain⟨v11,hv11⟩: ∃v11,v11=qr (some O11)+1:=⟨_,rfl⟩
  simp only[←hv11];refine⟨_,_,Wk.trans (Wk.cells (j:=h.length+11) (v:=v11) (ty:=58) (cs:= [.int .i64 (y:Int),.int .i64 (F:Int),.int .i64 (G:Int),.bool pb,.nl,.nl]) (cs':= [.int .i64 (y:Int),.int .i64 (F:Int),.int .i64 (G:Int),.bool pb,strs [],.nl]) ?m1 ?m2)
   (Wk.ownNil (j:=h.length+11) (i:=5) (k:=h.length+14) (v:=v11) (ty:=58) (cs:= [.int .i64 (y:Int),.int .i64 (F:Int),.int .i64 (G:Int),.bool pb,strs [],.nl]) (ve:=e14) (sz:=2) ?m3 rfl ?m4),?_⟩
  case m1=>simp only[go_sem]
  case m2=>exact⟨qk,qk,qk,qk,jf,qk,trivial⟩
  case m3=>simp only[go_sem]
  case m4=>simp only[go_sem]
  have c161:=fun h=>qE8 u cl W a.lay (y:Int) h
  unfold unC strs at c161;have kc:((k:Int)<a.cls.length)=True:=k8;simp (disch:=omega) only[List.set_cons_succ,List.set_cons_zero,qaN,strs,unC,k8,ecl,go_sem]
  repeat' first
   |(refine cA (c161 _) flk ?_;simp (disch:=omega) only[go_sem])
   |with_reducible apply aiA
  all_goals try exact clz
  have hmem:u∈a.l:=by rw[hu,gdqA,zp hk];exact List.getElem_mem hk
  have hur:=(qeo hok.un).rg u hmem;have hri:qjD u.rds a.x.sig.length:=by rw[hur.2.2.2];exact qqA _ _ _
  have hsgl:=(qk9 hok.co).sg;have hsr: ∀r,r<u.rds.length→(u.rds.getD r default).src.length≤32∧qbJ a.x.sig a.gs (u.rds.getD r default).src=0:=fun r hr=>by
   have h1:=hri.src (u.rds.getD r default) (by rw[gdqA,zp hr];exact List.getElem_mem hr);have h2:=qfM (hi:=((a.x.sig.length:Nat):Int)) (lo:=0) h1.1 h1.2;refine⟨om,?_⟩;unfold qbJ;rw[ipo g2];exact qAn h1.1 h1.2
  have h8:=qeY hz.g42 g2;have zrl:=hz.un.rd k;have zwd:=hz.un.wd k;rw[eu]at zrl;simp only[eu]at zwd;have zcl:cl.length=u.rds.length:=by rw[←ecl,←eu];exact hcu
  have hV:=qA1 g3 k y (a.l.getD k default).rds.length;rw[eu,ecl,eW]at hV;obtain⟨VL,hVL⟩: ∃VL,VL=vrK a k y:=⟨_,rfl⟩
  have hV:VL=flG (vtB u.rds cl W a.lay (y:Int)) (fun r=>(⟨(u.rds.getD r default).words,shR a.x.sig a.gs (u.rds.getD r default).src⟩:Va)) u.rds.length:=by
   rw[hVL,←hV];unfold vrK;rw[eu]
  have hxl:(vtX u.rds cl W a.lay (y:Int) u.rds.length).length=VL.length:=by rw[hV];exact qlu _ _ _ _
  have hVLn:VL.length≤u.rds.length:=by rw[hV];exact qyv _ _ _
  have hix:=fun i hi=>qyu (p:=vtB u.rds cl W a.lay (y:Int)) (g:=fun r=>([.agg (rdC (u.rds.getD r default))]:List AV)) (k:=fun r=>(⟨(u.rds.getD r default).words,shR a.x.sig a.gs (u.rds.getD r default).src⟩:Va)) (n:=u.rds.length) (i:=i) hi
  rw[←hV]at hix;refine qaT (xs:=vtX u.rds cl W a.lay (y:Int) u.rds.length) (itV u cl W a.lay (y:Int) zrl zcl zwd hWb om (fun i=>by have:=hz.yl i;omega)) ?e0
   (S:=fun i hh=> ∃w2 Q12 Q13,qC [Q12] 0=true∧qC [Q13] 0=true∧(Q12=O12∨ ∀n,lowO n Q12)∧(Q13=O13∨ ∀n,lowO n Q13)∧hh=h++ [.mem 1 26 (coC a.x),.mem 1 44 [qu a.gs],.mem 1 49 [.nl],.mem 1 35 [.int .i64 0],O4,zP v 58 (jh (enU a k++enY a k y)),.mem v6 83 (unC u),.mem v7 22 [strs W],O8,O9,.emp (w+1),.mem v11 58 [.int .i64 (y:Int),.int .i64 (F:Int),.int .i64 (G:Int),.bool pb,strs [],.osl (h.length+14) w2 2 0 i],Q12,Q13,zP w2 85 (qdD (VL.take i)),O15,.emp 0])
   (E:=fun _ _=>False) ?e1 (fun _ _ h=>h.elim) ?e2 ?e3 ?e4 ?e5 (fun _ _ h=>h.elim)
  case e0=>
   intro x hx;unfold vtX at hx;obtain⟨i,hi,e⟩:=List.getElem_of_mem hx;obtain⟨r,_,_,r3,_⟩:=hix i hi;rw[←e,r3];rfl
  case e1=>
   rintro i hh ⟨w2,Q12,Q13,_,_,l12,l13,rfl⟩;refine LowI.app rfl (fun o ho=> ?_);simp only[List.mem_cons,List.not_mem_nil,or_false]at ho;have lft: ∀ {p q:Prop},p→p∨q:=fun h=> .inl h
   rcases ho with rfl|rfl|rfl|rfl|rfl|rfl|rfl|rfl|rfl|rfl|rfl|rfl|rfl|rfl|rfl|rfl|rfl
   case inr.inr.inr.inr.inr.inr.inr.inr.inr.inr.inr.inl=>
    right;constructor<;>(intro c hc;simp only[List.mem_cons,List.not_mem_nil,or_false]at hc;rcases hc with rfl|rfl|rfl|rfl|rfl|rfl<;>simp[lowV,qdZ])
   case inr.inr.inr.inr.inr.inr.inr.inr.inr.inr.inr.inr.inl=>
    rcases l12 with rfl|l12
    ·left;simp only[List.mem_cons,true_or,or_true]
    ·right;exact⟨l12 _,l12 _⟩
   case inr.inr.inr.inr.inr.inr.inr.inr.inr.inr.inr.inr.inr.inl=>
    rcases l13 with rfl|l13
    ·left;simp only[List.mem_cons,true_or,or_true]
    ·right;exact⟨l13 _,l13 _⟩
   case inr.inr.inr.inr.inr.inr.inr.inr.inr.inr.inr.inr.inr.inr.inl=>
    right;exact⟨qaD (qhK _ _),qaD (qhK _ _)⟩
   all_goals
    left;simp only[List.mem_cons,unC,strs,true_or,or_true]
  case e2=>exact⟨e14,O12,O13,p12,p13,.inl rfl,.inl rfl,rfl⟩
  case e3=>
   have lw: ∀n,lowV n (qZ a.b)=true:=fun _=>rfl
   have lu: ∀n,lowV n (zf a.l)=true:=fun _=>rfl
   have lr: ∀n,lowV n (jo u.rds)=true:=fun _=>rfl
   simp[lowV,lowV.lowVs,lw,lu,lr]
   try omega
  case e4=>
   rintro i hh tl LI TS hi ⟨w2,Q12,Q13,q12,q13,l12,l13,rfl⟩ hlen K4 K5 hK4 hN hR' hX;obtain⟨r,ra,rb,rc,rd4⟩:=hix i hi;have rc':(vtX u.rds cl W a.lay (y:Int) u.rds.length)[i]= [.agg (rdC (u.rds.getD r default))]:=rc;rw[rc'];rw[hxl]at hi;have q12': ∀m,qC (Q12::m) 0=true:=fun _=>q12
   have q13': ∀m,qC (Q13::m) 0=true:=fun _=>q13
   obtain⟨sl,sE⟩:=hsr r ra;have zw:=zwd r;obtain⟨rd,hrd⟩: ∃rd,rd=u.rds.getD r default:=⟨_,rfl⟩
   rw[←hrd]at rd4 sl sE zw ⊢;have c142:=fun h=>qCO a.x.sig a.gs rd.src h hsz om (fun _=>h8)
   simp only[sE]at c142;obtain⟨sh,hsh⟩: ∃sh,sh=shR a.x.sig a.gs rd.src:=⟨_,rfl⟩
   rw[←hsh]at rd4;simp only[←hsh]at c142;have hTk:VL.take (i+1)=VL.take i++ [⟨rd.words,sh⟩]:=by rw[List.take_add_one,rd4];rfl
   have hTl:(VL.take i).length=i:=by rw[List.length_take];omega
   have eVl:=qhJ (VL.take i);rw[hTl]at eVl;have eVk:List.take (i*2) (qdD (VL.take i))=qdD (VL.take i):=ltl om;have eVn:qdD (VL.take (i+1))=qdD (VL.take i)++ [strs rd.words,strs sh]:=by rw[hTk,qrl];rfl
   unfold strs ql at c142;simp only[qb8];simp (disch:=omega) only[List.append_assoc,coC,rdC,q12',go_sem];refine hK4 _ _ (h++ [.mem 1 26 (coC a.x),.mem 1 44 [qu a.gs],.mem 1 49 [.nl],.mem 1 35 [.int .i64 0],O4,zP v 58 (jh (enU a k++enY a k y)),.mem v6 83 (unC u),.mem v7 22 [strs W],O8,O9,.emp (w+1),.mem v11 58 [.int .i64 (y:Int),.int .i64 (F:Int),.int .i64 (G:Int),.bool pb,strs [],.osl (h.length+14) w2 2 0 i],.mem (qr (some Q12)+1) 89 (rdC rd),Q13,zP w2 85 (qdD (VL.take i)),O15,.emp 0]) (by simp[coC,rdC]) (by simp) ?_;simp (disch:=omega) only[List.append_assoc,coC,rdC,ql,strs,go_sem]
   repeat' first
    |(refine cA (c142 _) flk ?_;simp (disch:=omega) only[q13',eVl,eVk,go_sem])
    |with_reducible first|intro _|apply aiA
   all_goals try exact clz
   have hl1: ∀n,lowO n (.mem (qr (some Q12)+1) 89 (rdC rd)):=fun n c hc=>by
    simp only[rdC,List.mem_cons,List.not_mem_nil,or_false]at hc;rcases hc with rfl|rfl<;>rfl
   have hl2: ∀n,lowO n (.mem (qr (some Q13)+1) 85 [strs rd.words,strs sh]):=fun n c hc=>by
    simp only[List.mem_cons,List.not_mem_nil,or_false]at hc;rcases hc with rfl|rfl<;>rfl
   refine hN _ _ (h++ [.mem 1 26 (coC a.x),.mem 1 44 [qu a.gs],.mem 1 49 [.nl],.mem 1 35 [.int .i64 0],O4,zP v 58 (jh (enU a k++enY a k y)),.mem v6 83 (unC u),.mem v7 22 [strs W],O8,O9,.emp (w+1),.mem v11 58 [.int .i64 (y:Int),.int .i64 (F:Int),.int .i64 (G:Int),.bool pb,strs [],.osl (h.length+14) (w2+1) 2 0 (i+1)],.mem (qr (some Q12)+1) 89 (rdC rd),.mem (qr (some Q13)+1) 85 [strs rd.words,strs sh],zP (w2+1) 85 (qdD (VL.take (i+1))),O15,.emp 0]) (by rw[eVn,List.append_assoc];rfl) (by simp) ⟨w2+1,_,_,rfl,rfl,.inr hl1,.inr hl2,rfl⟩
  case e5=>
   rintro hh ⟨w2,Q12,Q13,q12,q13,l12,l13,rfl⟩;have q12': ∀m,qC (Q12::m) 0=true:=fun _=>q12
   have q13': ∀m,qC (Q13::m) 0=true:=fun _=>q13
   rw[hxl,List.take_length];simp (disch:=omega) only[go_sem];refine⟨_,_,Wk.fzCell (j:=h.length+11) (k:=h.length+14) (i:=5) (v:=v11) (ty:=58) (cs:= [.int .i64 (y:Int),.int .i64 (F:Int),.int .i64 (G:Int),.bool pb,strs [],.osl (h.length+14) w2 2 0 VL.length]) (c:= .osl (h.length+14) w2 2 0 VL.length) (c':=qW VL) ?n1 rfl ?n2 om ?n3,?_⟩
   case n1=>simp only[go_sem]
   case n2=>simp only[go_sem]
   case n3=>
    rw[qch,getO_app];exact qqU rfl
   have zv: ∀g,valL g .len [qW VL]= .int .i64 VL.length:=fun _=>rfl
   have zw: ∀g,okL g .len [qW VL]=True:=fun _=>eqt trivial
   by_cases hV0:VL.length=0
   ·have n0:((VL.length:Int)=0)=True:=eqt om;simp (disch:=omega) only[List.set_cons_succ,List.set_cons_zero,zv,zw,n0,go_sem]
    repeat' first
     |with_reducible apply aiA
    all_goals try exact clz
    have hnil:VL= []:=List.eq_nil_of_length_eq_zero hV0;rw[←hVL,hnil,ipo rfl,lan]at hys;refine hK3 _ _ ⟨y+1,v,.mem v11 58 [.int .i64 (y:Int),.int .i64 (F:Int),.int .i64 (G:Int),.bool pb,strs [],qW VL],Q12,Q13,w2+1,O15⟩ ⟨hy,rfl,q12,q13,p15⟩ (by simp only;omega) ?_;simp only[hys];refine Wk.temps ?_
    (simp only[zf,qaN,qZ,wdC,strs,qaY,unC,go_sem,qj,qd,qa,qi];try (repeat' first|(with_reducible apply aiA)|(apply qh;omega)|(apply qg;rfl)|exact qk))
   have n0:((VL.length:Int)=0)=False:=eqf om;have hne: ¬VL= []:=fun e=>hV0 (by rw[e];rfl)
   rw[←hVL,ine hne]at hys;have eBA:baK a k=j8 (fun r=>decide ((u.rds.getD r default).words=W)) u.rds.length 0:=by unfold baK;rw[eu,eW]
   have hBc:=zy (fun r=>decide ((u.rds.getD r default).words=W)) u.rds.length;have hsu:suK a k y=if pb=true∧0≤baK a k then shR a.x.sig a.gs (u.rds.getD (baK a k).toNat default).src else []:=by unfold suK;rw[epb,eu]
   have hen:enC (enK a k y)= [.int .i64 (y:Int),.int .i64 (F:Int),.int .i64 (G:Int),.bool pb,strs (suK a k y),qW VL]:=by
    unfold enK enC;rw[epb,←hF,←hG,←hVL]
   have hMl:=qt8 a k y;obtain⟨M,hM⟩: ∃M,M=enU a k++enY a k y:=⟨_,rfl⟩
   have hMn:enU a k++enY a k (y+1)=M++ [enK a k y]:=by rw[hys,hM,List.append_assoc]
   rw[←hM]at hMl ⊢;have hMb:M.length≤1000:=by
    have h1:k*a.lay.length≤12*18:=Nat.mul_le_mul om z3;omega
   have eMl:=jN M;have eMk:List.take (M.length*6) (jh M)=jh M:=ltl om;have eMn:jh (enU a k++enY a k (y+1))=jh M++enC (enK a k y):=by rw[hMn,qce,qdP]
   have eMq:(enU a k++enY a k (y+1)).length=M.length+1:=by rw[hMn,lap];rfl
   have c127:=fun H hk=>qCA u.rds W (h.length+7) v7 H hk om zwd hWb
   rw[←eBA]at c127 hBc;obtain⟨bk,hbk⟩: ∃bk,bk=baK a k:=⟨_,rfl⟩
   rw[←hbk]at hsu hBc;simp only[←hbk]at c127;obtain⟨su,hsux⟩: ∃su,su=suK a k y:=⟨_,rfl⟩
   rw[←hsux]at hsu hen;simp (disch:=omega) only[List.set_cons_succ,List.set_cons_zero,zv,zw,n0,unC,go_sem]
   repeat' first
    |with_reducible apply aiA
   all_goals try exact clz
   refine cA (c127 _ ?ka) (by exact flk) ?_
   case ka=>simp only[go_sem]
   cases pb with
   |false=>
    rw[ine (by simp)]at hsu;rw[hsu]at hen;simp (disch:=omega) only[r3,epb,p15',eMl,eMk,go_sem]
    repeat' first
     |with_reducible first|intro _|apply aiA
    all_goals try exact clz
    rw[hen]at eMn
    try rw[←eMn]
    refine hK3 _ _ ⟨y+1,v+1,.mem v11 58 [.int .i64 (y:Int),.int .i64 (F:Int),.int .i64 (G:Int),.bool false,strs [],qW VL],Q12,Q13,w2+1,.mem (qr (some O15)+1) 58 [.int .i64 (y:Int),.int .i64 (F:Int),.int .i64 (G:Int),.bool false,strs [],qW VL]⟩ ⟨hy,rfl,q12,q13,rfl⟩ (by simp only;omega) ?_;simp only[eMq];refine Wk.temps ?_
    (simp only[zf,qaN,qZ,wdC,strs,qaY,unC,go_sem,qj,qd,qa,qi];try (repeat' first|(with_reducible apply aiA)|(apply qh;omega)|(apply qg;rfl)|exact qk))
   |true=>
   by_cases hb0:0≤bk
   case neg=>
    have n1:(0≤bk)=False:=eqf hb0;rw[ine (fun hc=>hb0 hc.2)]at hsu;rw[hsu]at hen;simp (disch:=omega) only[r3,epb,p15',eMl,eMk,n1,go_sem]
    repeat' first
     |with_reducible apply aiA
    all_goals try exact clz
    rw[hen]at eMn
    try rw[←eMn]
    refine hK3 _ _ ⟨y+1,v+1,.mem v11 58 [.int .i64 (y:Int),.int .i64 (F:Int),.int .i64 (G:Int),.bool true,strs [],qW VL],Q12,Q13,w2+1,.mem (qr (some O15)+1) 58 [.int .i64 (y:Int),.int .i64 (F:Int),.int .i64 (G:Int),.bool true,strs [],qW VL]⟩ ⟨hy,rfl,q12,q13,rfl⟩ (by simp only;omega) ?_;simp only[eMq];refine Wk.temps ?_
    (simp only[zf,qaN,qZ,wdC,strs,qaY,unC,go_sem,qj,qd,qa,qi];try (repeat' first|(with_reducible apply aiA)|(apply qh;omega)|(apply qg;rfl)|exact qk))
   case pos=>
    have n1:(0≤bk)=True:=eqt hb0;rw[ipo ⟨rfl,hb0⟩]at hsu;obtain⟨r,hr1,hr2⟩: ∃r:Nat,bk=(r:Int)∧r<u.rds.length:=by
     rcases hBc with⟨i,h1,_,_,h4⟩|⟨_,h2⟩
     ·exact⟨i,h4,h1⟩
     ·omega
    rw[hr1]at n1;rw[hr1,itn]at hsu;simp only[hr1];have n2:((r:Int)<u.rds.length)=True:=eqt om;obtain⟨sl,sE⟩:=hsr r hr2;obtain⟨rd,hrd⟩: ∃rd,rd=u.rds.getD r default:=⟨_,rfl⟩
    have erd:=hrd.symm;rw[erd]at sl sE hsu;have c142:=fun h=>qCO a.x.sig a.gs rd.src h hsz om (fun _=>h8)
    simp only[sE,←hsu]at c142;unfold strs ql at c142;simp (disch:=omega) only[r3,epb,n1,n2,coC,jo,rdC,ql,strs,erd,go_sem]
    repeat' first
     |(refine cA (c142 _) flk ?_;simp (disch:=omega) only[p15',eMl,eMk,List.set_cons_succ,List.set_cons_zero,go_sem])
     |(apply qb;exact rvk;simp only[go_sem])
     |with_reducible first|intro _|apply aiA
    all_goals try exact clz
    rw[hen]at eMn;unfold strs at eMn
    try rw[←eMn]
    refine hK3 _ _ ⟨y+1,v+1,.mem v11 58 [.int .i64 (y:Int),.int .i64 (F:Int),.int .i64 (G:Int),.bool true,strs su,qW VL],Q12,Q13,w2+1,.mem (qr (some O15)+1) 58 [.int .i64 (y:Int),.int .i64 (F:Int),.int .i64 (G:Int),.bool true,strs su,qW VL]⟩ ⟨hy,rfl,q12,q13,rfl⟩ (by simp only;omega) ?_;simp only[eMq];refine Wk.temps ?_
    (simp only[zf,qaN,qZ,wdC,strs,qaY,unC,go_sem,qj,qd,qa,qi];try (repeat' first|(with_reducible apply aiA)|(apply qh;omega)|(apply qg;rfl)|exact qk))
theorem qDI(e:En)(h:List AObj)(hs:e.sup.length≤1000000000)(hv:e.vars.length≤1000000000)(hw: ∀j,(e.vars.getD j default).words.length≤1000000000)(hg: ∀j,(e.vars.getD j default).sigla.length≤1000000000):
  ACalls Tryz.prog 30 [.agg (enC e),.agg (enC e)] h (.bool true) h:=by
 have c85:=fun h=>qBE e.sup e.sup h hs hs
 rw[dqt rfl]at c85;have zv1: ∀g,valL g .len [qW e.vars]= .int .i64 e.vars.length:=fun _=>rfl
 have zv2: ∀g,okL g .len [qW e.vars]=True:=fun _=>eqt trivial
 refine acO qCd ?_;simp (disch:=omega) only[qDl,enC,go_sem]
 repeat' first
  |(refine cG (fun e=>c85 _) flk ?_;simp (disch:=omega) only[zv1,zv2,go_sem])
  |with_reducible apply aiA
 all_goals try exact clz
 refine qn (T:=fun i:Nat=>qI 86 [(2,.op h.length 1 0),(3,.op (h.length+1) 1 0),(5,.int .i64 i)])
  (H:=fun _=>h++ [.mem 1 58 [.int .i64 e.layer,.int .i64 e.frm,.int .i64 e.to,.bool e.pos,strs e.sup,qW e.vars],.mem 1 58 [.int .i64 e.layer,.int .i64 e.frm,.int .i64 e.to,.bool e.pos,strs e.sup,qW e.vars]])
  (inv:=fun i=>i≤e.vars.length) (m:=fun i=>e.vars.length-i) 0 (nzl _) (Wk.temps ?_) ?_
 ·(simp only[go_sem,qj,qd,qa,qi];try (repeat' first|(with_reducible apply aiA)|(apply qh;omega)|(apply qg;rfl)|exact qk))
 rintro i i1 K hK
 by_cases hi:i<e.vars.length
 ·have k1:((i:Int)<e.vars.length)=True:=eqt om;have cw:=fun h=>qBE (e.vars.getD i default).words (e.vars.getD i default).words h (hw i) (hw i)
  have cg:=fun h=>qBE (e.vars.getD i default).sigla (e.vars.getD i default).sigla h (hg i) (hg i)
  rw[dqt rfl]at cw cg;obtain⟨x,hx⟩: ∃x,x=e.vars.getD i default:=⟨_,rfl⟩
  have ex:=hx.symm;simp only[ex]at cw cg;have zz:qW e.vars= .sl e.vars.length fun i=>vaC (e.vars.getD i default):=rfl
  simp (disch:=omega) only[zz,vaC,k1,ex,go_sem]
  repeat' first
   |((first|refine cA (cw _) ?_ ?_|refine cG (fun e=>cg _) ?_ ?_);exact flk;simp (disch:=omega) only[k1,ex,go_sem])
   |with_reducible apply aiA
  all_goals try exact clz
  refine hK _ _ (i+1) hi om (Wk.temps ?_)
  (simp only[go_sem,qj,qd,qa,qi];try (repeat' first|(with_reducible apply aiA)|(apply qh;omega)|(apply qg;rfl)|exact qk))
 ·have k1:((i:Int)<e.vars.length)=False:=eqf om;simp (disch:=omega) only[k1,zv1,zv2,go_sem]
  repeat' first
   |(apply qb;exact rvk;simp only[go_sem];exact qk)
   |with_reducible apply aiA
  all_goals try exact clz
structure EqZ (l:List En):Prop where
 n:l.length≤1000000000
 s: ∀i,(l.getD i default).sup.length≤1000000000
 v: ∀i,(l.getD i default).vars.length≤1000000000
 w: ∀i j,((l.getD i default).vars.getD j default).words.length≤1000000000
 g: ∀i j,((l.getD i default).vars.getD j default).sigla.length≤1000000000
theorem qDF(l:List En)(h:List AObj)(hz:EqZ l):ACalls Tryz.prog 29 [zg l,zg l] h (.bool true) h:=by
 have c68:=fun i h=>qDI (l.getD i default) h (hz.s i) (hz.v i) (hz.w i) (hz.g i)
 have hn:=hz.n;refine acO qCc ?_;simp (disch:=omega) only[qDk,zg,go_sem];refine qn (T:=fun i:Nat=>qI 27 [(0,zg l),(1,zg l),(5,.int .i64 i)]) (H:=fun _=>h) (inv:=fun i=>i≤l.length) (m:=fun i=>l.length-i) 0 (nzl _) (Wk.temps ?_) ?_
 ·(simp only[zg,go_sem,qj,qd,qa,qi];try (repeat' first|(with_reducible apply aiA)|(apply qh;omega)|(apply qg;rfl)|exact qk))
 rintro i i1 K hK
 by_cases hi:i<l.length
 ·have k1:((i:Int)<l.length)=True:=eqt om;have c68:=c68 i;obtain⟨x,hx⟩: ∃x,x=l.getD i default:=⟨_,rfl⟩
  have ex:=hx.symm;simp only[ex]at c68;unfold enC at c68;simp (disch:=omega) only[zg,enC,k1,ex,go_sem]
  repeat' first
   |(refine cA (c68 _) flk ?_;simp (disch:=omega) only[go_sem])
   |with_reducible apply aiA
  all_goals try exact clz
  refine hK _ _ (i+1) hi om (Wk.temps ?_)
  (simp only[zg,go_sem,qj,qd,qa,qi];try (repeat' first|(with_reducible apply aiA)|(apply qh;omega)|(apply qg;rfl)|exact qk))
 ·have k1:((i:Int)<l.length)=False:=eqf om;simp (disch:=omega) only[zg,k1,go_sem]
  repeat' first
   |(apply qe;exact rvk;simp only[go_sem];exact qk)
theorem qvp(names:List Str)(gs:List Gr)(S:List Int):(shR names gs S).length≤200:=by
 unfold shR;split
 ·rw[List.length_map];unfold qBw;obtain⟨k,_,e⟩:=qkz gs (qaf S) (qbL gs (qaf S)) (2^(qbL gs (qaf S)).length-1);rw[e,qcp];have h1:=qN k.testBit 64;have h2:=qN (anN (qaf S) (chN (usM gs (qbL gs (qaf S))) k)).testBit 64;unfold qmR;omega
 ·exact nzl _
deriving instance DecidableEq for Va
deriving instance DecidableEq for En
def tkS(s:Str):Tk:=⟨s,s,[],0,0,[]⟩
def qqM:Str:= [100,101,117,115]
def qBC:Str:= [101,115,116]
def qhC:Str:= [98,111,110,117,115]
def xCo:Co:=⟨[97],[[65],[66]],[[tkS qqM,tkS qBC,tkS qhC],[tkS qqM,tkS qhC]],[[0,0],[1,-1],[2,1]]⟩
def xUn:List Un:= [⟨1,2,[⟨[qBC],[0]⟩,⟨[],[1]⟩]⟩]
def xCl:List (List Str):= [[[98,97,115,101],[111,109,105,115,115,105,111,110]]]
def xBa:List Wd:= [⟨qqM,0,-1,-1,false,false,[]⟩,⟨qBC,1,0,-1,false,false,[]⟩,⟨qhC,2,-1,-1,false,false,[]⟩]
def xLa:List Str:= [[111,109,105,115,115,105,111,110]]
def xAp:Ap:=⟨xCo,xUn,xCl,xBa,[],xLa,[true]⟩
def xEn:List En:= [⟨0,1,2,true,[[65]],[⟨[],[[66]]⟩]⟩]
def xL3:List Str:= [[97,32,98],[99],[100]]
theorem qDf:enE xAp=0:=by decide+kernel
theorem qDg:enR xAp=xEn:=by decide+kernel
theorem qwo:lyR xL3 [120]=2∧lyE xL3=0:=by decide+kernel
theorem qDh:lyR xL3 [98]=0:=by decide+kernel
end RC
end
section
namespace AF
open Go
end AF
end
section
open Go Go.Proofs AF
def quz:List Nat:= [96]
def qDj:C:=
 ((C.ops [MC 0 (.bool false)]).seq ((C.ops [⟨some 10,none,.build [.str [],i6 0,i6 0,i6 0,.bool false,.bool false,.str []] [(0,1),(2,1),(3,1)],[.c (.str [100,101,117,
 115]),.c (i6 (-1)),.c (i6 (-1))]⟩,⟨some 11,none,.build [.str [],i6 0,i6 0,i6 0,.bool false,.bool false,.str []] [(0,1),(1,1),(3,1)],[.c (.str [101,115,116]),.c
 (i6 1),.c (i6 (-1))]⟩,⟨some 12,none,.build [.str [],i6 0,i6 0,i6 0,.bool false,.bool false,.str []] [(0,1),(1,1),(2,1),(3,1)],[.c (.str [98,111,110,117,115]),
 .c (i6 2),.c (i6 (-1)),.c (i6 (-1))]⟩,⟨some 13,none,.bslc 0 7 3 64 [.str [],i6 0,i6 0,i6 0,.bool false,.bool false,.str []] [(0,7),(7,7),(14,7)],[.t 10,.t 11,.t
 12]⟩,MV 1 13]).seq ((C.ops [⟨some 14,none,.bslc 1 1 1 9 [.str []] [(0,1)],[.c (.str [101,115,116])]⟩,⟨some 15,none,.bslc 2 1 1 3 [i6 0] [(0,1)],[.c (i6 0)]⟩,⟨some 16,
 none,.build [.nl,.nl] [(0,1),(1,1)],[.t 14,.t 15]⟩,⟨some 17,none,.bslc 3 1 1 3 [i6 0] [(0,1)],[.c (i6 1)]⟩,⟨some 18,none,.build [.nl,.nl] [(1,1)],[.t 17]⟩,⟨some
 19,none,.bslc 4 2 2 89 [.nl,.nl] [(0,2),(2,2)],[.t 16,.t 18]⟩,⟨some 20,none,.build [i6 0,i6 0,.nl] [(0,1),(1,1),(2,1)],[.c (i6 1),.c (i6 2),.t 19]⟩,⟨some 21,
 none,.bslc 5 3 1 83 [i6 0,i6 0,.nl] [(0,3)],[.t 20]⟩,MV 2 21]).seq ((C.ops [ON 23 (.call 97 true) [],MV 24 2,⟨some 25,none,.bslc 6 1 2 9 [.str []] [(0,1),(1,1)],[.c
 (.str [98,97,115,101]),.c (.str [111,109,105,115,115,105,111,110])]⟩,⟨some 26,none,.bslc 7 1 1 22 [.nl] [(0,1)],[.t 25]⟩,MV 27 1,⟨some 28,none,.bslc 8 1 1 9
 [.str []] [(0,1)],[.c (.str [111,109,105,115,115,105,111,110])]⟩,⟨some 29,none,.bslc 9 1 1 4 [.bool false] [(0,1)],[.c (.bool true)]⟩,ON 30 (.call 96 false) [.t 23,
 .t 24,.t 26,.t 27,.c .nl,.t 28,.t 29],MV 22 30,O1 31 (.ext 0) 22,O1 32 (.ext 1) 22,MV 3 31,MV 4 32]).seq ((C.ops [⟨some 33,none,.bslc 10 1 1 9 [.str []] [(0,1)],[.c
 (.str [65])]⟩,⟨some 34,none,.bslc 11 1 1 9 [.str []] [(0,1)],[.c (.str [66])]⟩,⟨some 35,none,.build [.nl,.nl] [(1,1)],[.t 34]⟩,⟨some 36,none,.bslc 12 2 1 85 [.nl,
 .nl] [(0,2)],[.t 35]⟩,⟨some 37,none,.build [i6 0,i6 0,i6 0,.bool false,.nl,.nl] [(1,1),(2,1),(3,1),(4,1),(5,1)],[.c (i6 1),.c (i6 2),.c (.bool true),.t 33,
 .t 36]⟩,⟨some 38,none,.bslc 13 6 1 58 [i6 0,i6 0,i6 0,.bool false,.nl,.nl] [(0,6)],[.t 37]⟩,MV 5 38]).seq ((C.ops [⟨some 40,none,.bslc 14 1 3 9 [.str []] [(0,1),(1,
 1),(2,1)],[.c (.str [97,32,98]),.c (.str [99]),.c (.str [100])]⟩,OC 41 (.call 27 true) 40 (.str [120]),MV 39 41,O1 42 (.ext 0) 39,O1 43 (.ext 1) 39,MV 6 42,MV 7
 43]).seq ((C.ops [⟨some 45,none,.bslc 15 1 3 9 [.str []] [(0,1),(1,1),(2,1)],[.c (.str [97,32,98]),.c (.str [99]),.c (.str [100])]⟩,OC 46 (.call 27 true) 45 (.str
 [98]),MV 44 46,O1 47 (.ext 0) 44,O1 48 (.ext 1) 44,MV 8 47,MV 9 48]).seq ((C.ops [MV 49 4,MV 50 7,MV 51 9,ON 52 (.mm true) [.t 49,.t 50,.t 51],BC 53 .eql 52 (i6 0),MV
 54 53,MG 55 54 true 3,MG 56 54 true 5,P2 57 54 true (.call 29 true) 55 56,PF 58 54 57,MV 59 58,MG 60 59 true 6,PC 61 59 true (.bin .eql) 60 (i6 2),PF 62 59 61,MV 63 62,MG
 64 63 true 8,PC 65 63 true (.bin .eql) 64 (i6 0),PF 66 63 65,MV 0 66]).seq
 C.ret))))))))
theorem qCb:qB Tryz.prog 24 67 16 [RV.tmp 0] qDj:=fi Tryz.f24 [13,14,15,17,19,21,25,26,28,29,33,34,36,38,40,45] quz []
end
section
open Go Go.Proofs AF HY LN
namespace RC
theorem il1{f g:Nat→List AV}(h:f 0=g 0):ILe (.sl 1 f) (.sl 1 g):=ILe.sl_eq fun i hi=>by
 obtain rfl:i=0:=by omega
 exact h
theorem il2{f g:Nat→List AV}(h0:f 0=g 0)(h1:f 1=g 1):ILe (.sl 2 f) (.sl 2 g):=ILe.sl_eq fun i hi=>by
 match i,hi with
 |0,_=>exact h0
 |1,_=>exact h1
 |n+2,hi=>exact absurd hi om
theorem il3{f g:Nat→List AV}(h0:f 0=g 0)(h1:f 1=g 1)(h2:f 2=g 2):ILe (.sl 3 f) (.sl 3 g):=ILe.sl_eq fun i hi=>by
 match i,hi with
 |0,_=>exact h0
 |1,_=>exact h1
 |2,_=>exact h2
 |n+3,hi=>exact absurd hi om
theorem im1{f g:Nat→List AV}(h:qa0 (f 0) (g 0)):ILe (.sl 1 f) (.sl 1 g):=ILe.sl fun i hi=>by
 obtain rfl:i=0:=by omega
 exact h
theorem im2{f g:Nat→List AV}(h0:qa0 (f 0) (g 0))(h1:qa0 (f 1) (g 1)):ILe (.sl 2 f) (.sl 2 g):=ILe.sl fun i hi=>by
 match i,hi with
 |0,_=>exact h0
 |1,_=>exact h1
 |n+2,hi=>exact absurd hi om
theorem vl1{f g:Nat→List AV}(h:qa0 (f 0) (g 0)):VLe (.sl 1 f) (.sl 1 g):=VLe.sl fun i hi=>by
 obtain rfl:i=0:=by omega
 exact h
theorem vl2{f g:Nat→List AV}(h0:qa0 (f 0) (g 0))(h1:qa0 (f 1) (g 1)):VLe (.sl 2 f) (.sl 2 g):=VLe.sl fun i hi=>by
 match i,hi with
 |0,_=>exact h0
 |1,_=>exact h1
 |n+2,hi=>exact absurd hi om
theorem vl3{f g:Nat→List AV}(h0:qa0 (f 0) (g 0))(h1:qa0 (f 1) (g 1))(h2:qa0 (f 2) (g 2)):VLe (.sl 3 f) (.sl 3 g):=VLe.sl fun i hi=>by
 match i,hi with
 |0,_=>exact h0
 |1,_=>exact h1
 |2,_=>exact h2
 |n+3,hi=>exact absurd hi om
theorem ie{a b:AV}(h:a=b):ILe a b:=by rw[h];exact ILe.refl _
theorem qCW(s:Str)(h:List AObj):ACalls Tryz.prog 163 [.str s] h (.agg (tkC (tkS s))) h:=by
 unfold tkS tkC;refine acO qyN ?_;simp (disch:=omega) only[qw8,go_sem]
 repeat' first
  |(apply qb;exact rvk;simp only[go_sem];exact qk)
theorem qwn:qCt xAp=false:=by decide+kernel
theorem qFh:qBG xAp:=qur qwn
theorem qCS(h:List AObj):ACalls Tryz.prog 97 [] h (.agg (coC xCo)) h:=by
 have c1:=fun s h=>qCW s h
 unfold tkC tkS at c1;refine acO qCp ?_;simp (disch:=omega) only[qDs,go_sem]
 repeat' first
  |((first|refine cA (c1 qqM _) ?_ ?_|refine cA (c1 qBC _) ?_ ?_|refine cA (c1 qhC _) ?_ ?_);exact flk;simp (disch:=omega) only[go_sem])
  |(apply qb;exact rvk;simp only[go_sem])
 refine VLe.agg ⟨qk,vl2 ⟨ie rfl,trivial⟩ ⟨ie rfl,trivial⟩,vl2 ⟨?a1,trivial⟩ ⟨?a2,trivial⟩,vl3 ⟨?a3,trivial⟩ ⟨?a4,trivial⟩ ⟨?a5,trivial⟩,trivial⟩
 case a1=>simp only[go_sem];exact il3 rfl rfl rfl
 case a2=>simp only[go_sem];exact il2 rfl rfl
 case a3=>simp only[go_sem];exact il2 rfl rfl
 case a4=>simp only[go_sem];exact il2 rfl rfl
 case a5=>simp only[go_sem];exact il2 rfl rfl
theorem qBM(h:List AObj)(hp:qag SG h):ACalls Tryz.prog 24 [] h (.bool true) h:=by
 have c1:=fun h=>qCS h
 refine acO qCb ?_;simp (disch:=omega) only[qDj,go_sem]
 repeat' first
  |(refine cA (c1 _) flk ?_;simp (disch:=omega) only[go_sem])
 have zm:valP (.mm true) [.int .i64 0,.int .i64 0,.int .i64 0]= .int .i64 0:=rfl;have zn:okP (.mm true) [.int .i64 0,.int .i64 0,.int .i64 0]=True:=eqt (by simp[okP,qbT]);have c2:=fun l=>qEk xAp (h++l) qFh (hp.app l)
 rw[qDf,qDg]at c2;refine qa4 (r:= .tup [zg xEn,.int .i64 0]) (h':=h++ [.emp 2,.emp 2,.emp 2,.emp 2,.emp 2,.emp 2,.emp 2,.emp 2,.emp 2,.emp 2,.emp 0,.emp 0,.emp 0,.emp 0,.emp 0,.emp 0])
  (qEu [h.length,h.length+1,h.length+2,h.length+3,h.length+4,h.length+5,h.length+6,h.length+7,h.length+8,h.length+9] (by simp only[ju,go_sem]) ?c) (by exact flk) ?_
 case c=>
  simp only[qbs,go_sem];refine ACalls.le (c2 _) ?_ (qk);obtain⟨fz,hfz⟩: ∃fz:Nat→Bool,fz=fun k=> [h.length,h.length+1,h.length+2,h.length+3,h.length+4,h.length+5,h.length+6,h.length+7,h.length+8,h.length+9].contains k:=⟨_,rfl⟩
  rw[←hfz];have f0:fz h.length=true:=by rw[hfz];simp
  have f1:fz (h.length+1)=true:=by rw[hfz];simp
  have f2:fz (h.length+2)=true:=by rw[hfz];simp
  have f3:fz (h.length+3)=true:=by rw[hfz];simp
  have f4:fz (h.length+4)=true:=by rw[hfz];simp
  have f5:fz (h.length+5)=true:=by rw[hfz];simp
  have f6:fz (h.length+6)=true:=by rw[hfz];simp
  have f7:fz (h.length+7)=true:=by rw[hfz];simp
  have f8:fz (h.length+8)=true:=by rw[hfz];simp
  have f9:fz (h.length+9)=true:=by rw[hfz];simp
  have g0:([h.length,h.length+1,h.length+2,h.length+3,h.length+4,h.length+5,h.length+6,h.length+7,h.length+8,h.length+9]:List Nat).contains h.length=true:=by simp
  have g1:([h.length,h.length+1,h.length+2,h.length+3,h.length+4,h.length+5,h.length+6,h.length+7,h.length+8,h.length+9]:List Nat).contains (h.length+1)=true:=by simp
  have g2:([h.length,h.length+1,h.length+2,h.length+3,h.length+4,h.length+5,h.length+6,h.length+7,h.length+8,h.length+9]:List Nat).contains (h.length+2)=true:=by simp
  have g3:([h.length,h.length+1,h.length+2,h.length+3,h.length+4,h.length+5,h.length+6,h.length+7,h.length+8,h.length+9]:List Nat).contains (h.length+3)=true:=by simp
  have g4:([h.length,h.length+1,h.length+2,h.length+3,h.length+4,h.length+5,h.length+6,h.length+7,h.length+8,h.length+9]:List Nat).contains (h.length+4)=true:=by simp
  have g5:([h.length,h.length+1,h.length+2,h.length+3,h.length+4,h.length+5,h.length+6,h.length+7,h.length+8,h.length+9]:List Nat).contains (h.length+5)=true:=by simp
  have g6:([h.length,h.length+1,h.length+2,h.length+3,h.length+4,h.length+5,h.length+6,h.length+7,h.length+8,h.length+9]:List Nat).contains (h.length+6)=true:=by simp
  have g7:([h.length,h.length+1,h.length+2,h.length+3,h.length+4,h.length+5,h.length+6,h.length+7,h.length+8,h.length+9]:List Nat).contains (h.length+7)=true:=by simp
  have g8:([h.length,h.length+1,h.length+2,h.length+3,h.length+4,h.length+5,h.length+6,h.length+7,h.length+8,h.length+9]:List Nat).contains (h.length+8)=true:=by simp
  have g9:([h.length,h.length+1,h.length+2,h.length+3,h.length+4,h.length+5,h.length+6,h.length+7,h.length+8,h.length+9]:List Nat).contains (h.length+9)=true:=by simp
  clear hfz;simp only[go_sem,coC,List.map_cons,List.map_nil,g0,g5,g7,g8,g9,if_true];refine⟨qk,vl1 ⟨ie rfl,ie rfl,?b1,trivial⟩,vl1 ⟨?b2,trivial⟩,VLe.sl_eq rfl (fun i hi=> ?b3),jf,VLe.sl_eq rfl (fun i hi=> ?b4),VLe.sl_eq rfl (fun i hi=> ?b5),trivial⟩
  case b1=>
   simp only[go_sem,f4,if_true];refine im2 ⟨?u1,?u2,trivial⟩ ⟨ILe.nl,?u3,trivial⟩
   all_goals
    simp only[go_sem,f1,f2,f3,if_true];exact il1 rfl
  case b2=>
   simp only[go_sem,f6,if_true];exact il2 rfl rfl
  case b3=>
   match i,hi with
   |0,_=>rfl
   |1,_=>rfl
   |2,_=>rfl
   |n+3,hi=>exact absurd hi om
  case b4=>
   obtain rfl:i=0:=by omega
   rfl
  case b5=>
   obtain rfl:i=0:=by omega
   rfl
 simp (disch:=omega) only[go_sem]
 repeat' first
  |with_reducible apply aiA
 all_goals try exact clz
 have lz: ∀i,(xL3.getD i []).length≤100000000:=zh xL3 (fun s=>s.length≤100000000) (by decide) (by decide);refine cA (r:= .tup [.int .i64 2,.int .i64 0]) ?d (by exact flk) ?_
 case d=>
  have c2:=lyP xL3 [120] [] (by decide) lz;rw[qwo.1,qwo.2]at c2;refine ACalls.borrow (c2.le ?_ (qk)) (by simp[qa8,jO]);simp only[List.map_cons,List.map_nil,go_sem];exact⟨VLe.sl_eq rfl (fun i hi=>by
   match i,hi with
   |0,_=>rfl
   |1,_=>rfl
   |2,_=>rfl
   |n+3,hi=>exact absurd hi om),qk,trivial⟩
 simp (disch:=omega) only[go_sem]
 repeat' first
  |with_reducible apply aiA
 all_goals try exact clz
 refine cA (r:= .tup [.int .i64 0,.int .i64 0]) ?e (by exact flk) ?_
 case e=>
  have c2:=lyP xL3 [98] [] (by decide) lz;rw[qDh,qwo.2]at c2;refine ACalls.borrow (c2.le ?_ (qk)) (by simp[qa8,jO]);simp only[List.map_cons,List.map_nil,go_sem];exact⟨VLe.sl_eq rfl (fun i hi=>by
   match i,hi with
   |0,_=>rfl
   |1,_=>rfl
   |2,_=>rfl
   |n+3,hi=>exact absurd hi om),qk,trivial⟩
 simp (disch:=omega) only[zm,zn,go_sem]
 repeat' first
  |with_reducible apply aiA
 all_goals try exact clz
 have xz:EqZ xEn:=by
  refine⟨by decide,?_,?_,?_,?_⟩
  ·exact zh xEn (fun e=>e.sup.length≤1000000000) (by decide) (by decide)
  ·exact zh xEn (fun e=>e.vars.length≤1000000000) (by decide) (by decide)
  ·exact zh xEn (fun e=> ∀j,(e.vars.getD j default).words.length≤1000000000) (fun j=>by simp[show (default:En).vars= []from rfl,show (default:Va).words= []from rfl]) fun i hi=>by
    obtain rfl:i=0:=by have:xEn.length=1:=rfl;omega
    exact zh _ (fun v:Va=>v.words.length≤1000000000) (by decide) (by decide)
  ·exact zh xEn (fun e=> ∀j,(e.vars.getD j default).sigla.length≤1000000000) (fun j=>by simp[show (default:En).vars= []from rfl,show (default:Va).sigla= []from rfl]) fun i hi=>by
    obtain rfl:i=0:=by have:xEn.length=1:=rfl;omega
    exact zh _ (fun v:Va=>v.sigla.length≤1000000000) (by decide) (by decide)
 refine cG (fun _=>ACalls.borrow ((qDF xEn [] xz).le ?g1 (qk)) rfl) (fun _=>by exact flk) ?_
 case g1=>
  simp only[List.map_cons,List.map_nil,go_sem];refine⟨qk,vl1 ⟨ie rfl,ie rfl,ie rfl,ie rfl,?h1,?h2,trivial⟩,trivial⟩
  case h1=>simp only[go_sem,if_true];exact il1 rfl
  case h2=>
   simp only[go_sem,if_true];refine im1 ⟨ILe.nl,?h3,trivial⟩;simp only[go_sem,if_true];exact il1 rfl
 simp (disch:=omega) only[go_sem]
 repeat' first
  |(apply qb;exact rvk;simp only[go_sem];exact qk)
end RC
end
section
open Go Go.Proofs AF
end
section
open Go Go.Proofs AF HY LN
namespace RC
end RC
end
section
open Go Go.Proofs AF
def qlY:List Nat:= [68,119]
def qBQ:C:=
 ((C.ops [O1 3 (.box 0 3) 1,ON 4 (.nilo 1 6 58) []]).seq ((C.ops [MV 5 0,O1 6 (.call 68 false) 5,O1 7 (.mkfn (Fn.func 120) 0) 3,O2 8 (.call 119 false) 6 7,MV 4 8]).seq
 C.ret))
theorem qzL:qB Tryz.prog 45 9 3 [RV.tmp 4] qBQ:=fi Tryz.f45 [3,4,6] qlY []
def qoM:C:=
 ((C.ops [ON 4 (.nilo 0 6 58) []]).seq ((C.ops [MV 8 0,MV 9 1,O2 10 (.call 121 true) 8 9,MV 5 10]).seq (((C.ops [MV 11 5,BC 12 .eql 11 (i6 (-1))]).seq (C.cond (.t 12) ((C.ops
 [MV 13 0,MV 4 13]).seq C.ret) C.skip)).seq (((C.ops [MV 14 5,BC 15 .add 14 (i6 1),MV 6 15]).seq (C.block 0 (((C.ops [MV 16 6,MV 17 0,O1 18 .len 17,BI 19 .lss 16 18]).seq
 (C.cond (.t 19) C.skip (C.exit 0))).seq ((C.block 1 ((C.ops [MV 22 0,MV 23 6,O2 24 (.idxA 6) 22 23,O1 25 (.load (some 6)) 24,⟨some 7,none,.alloc 1 58 [i6 0,i6 0,i6 0,.bool
 false,.nl,.nl],[]⟩,ST 6 7 25]).seq ((C.ops [MV 26 1,O1 27 (.load (some 6)) 7,O2 28 .callv 26 27,O1 29 (.un UnOp.not) 28]).seq (C.cond (.t 29) ((C.ops [MV 30 0,MV 31 5,O1
 32 (.load (some 6)) 7,O2 33 (.idxA 6) 30 31,ST 6 33 32]).seq (C.ops [MV 34 5,BC 35 .add 34 (i6 1),MV 5 35])) C.skip)))).seq (C.ops [MV 20 6,BC 21 .add 20 (i6 1),MV 6
 21]))).loop)).seq ((C.ops [MV 36 0,MV 37 5,O2 38 (.slc 6 true false) 36 37,⟨none,none,.clr 6 [i6 0,i6 0,i6 0,.bool false,.nl,.nl],[.t 38]⟩]).seq ((C.ops [MV 39 0,MV 40
 5,O2 41 (.slc 6 false true) 39 40,MV 4 41]).seq
 C.ret))))))
theorem qlE:qB Tryz.prog 119 42 2 [RV.tmp 4] qoM:=fi Tryz.f119 [4,7] qlY []
end
section
open Go Go.Proofs AF HY LN
namespace RC
section
variable {q : En → Bool} {L : List En} {J : Nat}
def jA(q:En→Bool)(L:List En)(J:Nat):List En:=(L.take J).filter fun e=> !q e
def qc1(q:En→Bool)(L:List En)(J:Nat):List En:=jA q L J++L.drop (jA q L J).length
theorem qck:(jA q L J).length≤J:=by
 unfold jA;refine Nat.le_trans (List.length_filter_le _ _) ?_;rw[List.length_take];exact Nat.min_le_left _ _
theorem qsS(hJ:J≤L.length):(qc1 q L J).length=L.length:=by
 have:=qck (q:=q) (L:=L) (J:=J)
 unfold qc1;rw[lap,List.length_drop];omega
theorem qen(hJ:J<L.length):L.take (J+1)=L.take J++ [L.getD J default]:=by
 rw[List.take_add_one,zp hJ,gdqA,zp hJ];rfl
theorem qsR(hJ:J<L.length):(qc1 q L J).getD J default=L.getD J default:=by
 have:=qck (q:=q) (L:=L) (J:=J)
 unfold qc1;rw[gdqA,gdqA,List.getElem?_append_right this,List.getElem?_drop,Nat.add_sub_cancel' this]
theorem qhk(hJ:J<L.length)(h:q (L.getD J default)=true):jA q L (J+1)=jA q L J:=by
 unfold jA;rw[qen hJ,List.filter_append];simp only[List.filter_cons,h,Bool.not_true,Bool.false_eq_true,if_false,List.filter_nil,lan]
theorem qe6(hJ:J<L.length)(h:q (L.getD J default)=false):jA q L (J+1)=jA q L J++ [L.getD J default]:=by
 unfold jA;rw[qen hJ,List.filter_append];simp only[List.filter_cons,h,Bool.not_false,if_true,List.filter_nil]
theorem qoz(hJ:J<L.length)(h:q (L.getD J default)=false):qc1 q L (J+1)=(qc1 q L J).set (jA q L J).length (L.getD J default):=by
 have:=qck (q:=q) (L:=L) (J:=J)
 unfold qc1;rw[qe6 hJ h,lap,List.set_append_right _ _ (nlr _),Nat.sub_self];rw[show L.drop (jA q L J).length=L[(jA q L J).length]'(by omega)::L.drop ((jA q L J).length+1)from List.drop_eq_getElem_cons om,List.set_cons_zero,List.append_assoc];rfl
theorem qpX(h: ∀j,j<J→q (L.getD j default)=false)(hJ:J≤L.length):jA q L J=L.take J:=by
 unfold jA;rw[List.filter_eq_self];intro e he;obtain⟨j,hj,rfl⟩:=List.getElem_of_mem he;rw[List.length_take]at hj
 have:=h j om
 rw[gdqA,zp om]at this;rw[List.getElem_take];simpa using this
theorem qsT(h: ∀j,j<J→q (L.getD j default)=false)(hJ:J<L.length)(hd:q (L.getD J default)=true):jA q L (J+1)=L.take J∧qc1 q L (J+1)=L:=by
 have e:=(qhk hJ hd).trans (qpX h om);refine⟨e,?_⟩;unfold qc1;rw[e,List.length_take,show min J L.length=J by omega,List.take_append_drop]
theorem qpW:jA q L L.length=L.filter fun e=> !q e:=by unfold jA;rw[List.take_length]
end
section
variable {k v w : Nat} {h l : List AObj} {ty : TypeId} {cs : List AV}
theorem ql9(hk:k<h.length):zR (setO k h (.mem w ty cs)++l) k v=decide (w=v):=by unfold zR;rw[qdS hk];first|rfl|simp
end
def zEn:List AV:= [.int .i64 0,.int .i64 0,.int .i64 0,.bool false,.nl,.nl]
theorem qmc(m n:Nat): ∀c∈qS zEn m,lowV n c=true:=by
 induction m with
 |zero=>intro c hc;cases hc
 |succ m ih=>
  intro c hc;rcases List.mem_append.1 (show c∈zEn++qS zEn m from hc)with hc|hc
  ·simp only[zEn,List.mem_cons,List.not_mem_nil,or_false]at hc;rcases hc with rfl|rfl|rfl|rfl|rfl|rfl<;>rfl
  ·exact ih c hc
theorem qEi(L:List En)(q:En→Bool)(f:Nat)(y:Int)(j vj k v:Nat)(h:List AObj)(hk:qA k h=some (.mem v 58 (jh L)))(hj:qA j h=some (.mem vj 3 [.int .i64 y]))(hjk:j≠k)(hl:L.length≤1000000)
  (hq: ∀e hh,ACalls Tryz.prog f [.agg (enC e),.ip [.int .i64 y]] hh (.bool (q e)) hh):
  ACalls Tryz.prog 119 [.osl k v 6 0 L.length,.fn (.func f) [] [.op j vj 0]] h (.osl k v 6 0 (L.filter fun e=> !q e).length) (setO k h (.mem v 58 (jh (L.filter fun e=> !q e)++qS zEn (L.length-(L.filter fun e=> !q e).length)))):=by
 have hkl:=jd hk;have hjl:=jd hj;have cK:=qQ hk;have cJ:=qQ hj;have cix: ∀l,ACalls Tryz.prog 121 [.osl k v 6 0 L.length,.fn (.func f) [] [.op j vj 0]] (h++l) (.int .i64 (j8 (fun i=>q (L.getD i default)) L.length 0)) (h++l):=by
  intro l;have hk2:qA k (h++l)=_:=(jz hkl).trans hk;have cJ2:cellsOf (h++l) j vj=_:=(qeJ hjl).trans cJ;refine ACalls.borrow ?_ rfl;have e:([AV.osl k v 6 0 L.length,.fn (.func f) [] [.op j vj 0]]).map (rei (fun _=>true) (h++l) 8)= [.sl L.length (fun i=>(((jh L).drop (0+i*6)).take 6).map (rei (fun _=>true) (h++l) 7)),.fn (.func f) [] [.ip [.int .i64 y]]]:=by
   have h1:0+L.length*6≤(jh L).length:=by rw[jN];omega
   simp only[List.map_cons,List.map_nil,rei_osl,if_true,hk2,slOf_mem,true_and,h1,rei_fn,rei_op,cJ2,ipOf_some,List.drop_zero,rei_int]
  rw[e];refine ACalls.le (qba qrP L.length (fun j=>enC (L.getD j default)) (fun j=> .agg (enC (L.getD j default))) f [] [.ip [.int .i64 y]] (fun i=>q (L.getD i default)) _ (fun i _=>⟨rfl,by simp[ji,enC],rfl,rfl,rfl⟩) (fun i _=>hq _ _) om) ⟨VLe.sl_eq rfl (fun i hi=> ?_),qk,trivial⟩ (qk);rw[Nat.zero_add,qa6 hi];rfl
 have e0:h=setO k h (.mem v 58 (jh L)):=(qfp hk).symm;have s1: ∀ {l w cs z},cellsOf (setO k h (.mem w 58 cs)++l) k z=if w=z then some cs else none:=qfQ hkl
 have s2: ∀ {l o o'},setO k (setO k h o++l) o'=setO k h o'++l:=qqO hkl;have s3: ∀ {l w cs z},zR (setO k h (.mem w 58 cs)++l) k z=decide (w=z):=ql9 hkl;have s4: ∀ {l o},qA k (setO k h o++l)=some o:=qdS hkl;have cl:=fun e hh (hx:qA j hh=some (.mem vj 3 [.int .i64 y]))=>show ACalls Tryz.prog f [.agg (enC e),.op j vj 0] hh (.bool (q e)) hh from by
  refine ACalls.borrow ?_ rfl;have e2:([AV.agg (enC e),.op j vj 0]).map (rei (fun _=>true) hh 8)= [.agg (enC e),.ip [.int .i64 y]]:=by
   simp only[List.map_cons,List.map_nil,rei_op,if_true,qQ hx,ipOf_some,List.drop_zero,rei_int,rei_agg];rfl
  rw[e2];exact hq _ _
 rcases zy (fun i=>q (L.getD i default)) L.length with⟨i,h1,h2,h3,h4⟩|⟨h1,h2⟩
 ·rw[h4]at cix;have k1:((i:Int)= -1)=False:=eqf om;refine acO qlE ?_;simp (disch:=omega) only[qoM,go_sem]
  repeat' first
   |(refine cA (cix _) flk ?_;simp (disch:=omega) only[k1,go_sem])
  obtain⟨p1,p2⟩:=qsT h3 h1 h2;have cl2:=fun e o l=>cl e (setO k h o++l) (by rw[jz (by rw[jj];exact hjl),kW hjk];exact hj)
  have tE:=fun e=>show List.take 6 (enC e)=enC e from rfl
  have lE:=fun e=>show (enC e).length=6 from rfl
  have dE:=fun e=>show List.drop 6 (enC e)= []from rfl
  have eT:(jA q L (i+1)).length=i:=by rw[p1,List.length_take];omega
  refine qn (T:=fun s:Nat×AObj=>qI 42 [(0,.osl k v 6 0 L.length),(1,.fn (.func f) [] [.op j vj 0]),(5,.int .i64 ((jA q L s.1).length:Nat)),(6,.int .i64 s.1)])
   (H:=fun s=>setO k h (.mem v 58 (jh (qc1 q L s.1)))++ [.emp 1,s.2])
   (inv:=fun s=>s.1≤L.length∧qC [s.2] 0=true∧(jA q L s.1).length<s.1) (m:=fun s=>L.length-s.1) (i+1,.emp 0) ⟨by simp only;omega,rfl,by simp only;omega⟩ ?_ ?_
  ·simp only[p2,eT];rw[←e0,show ((i+1:Nat):Int)=(i:Int)+1 by omega];refine Wk.temps ?_
   (simp only[go_sem,qj,qd,qa,qi];try (repeat' first|(with_reducible apply aiA)|(apply qh;omega)|(apply qg;rfl)|exact qk))
  rintro⟨J,O⟩ ⟨i1,i2,i3⟩ K hK;simp only at i1 i2 i3 hK;have i2': ∀m,qC (O::m) 0=true:=fun _=>i2
  have hal:=qsS (q:=q) i1;have hkn:=qck (q:=q) (L:=L) (J:=J);obtain⟨m,hm⟩: ∃m,m=(jA q L J).length:=⟨_,rfl⟩
  rw[←hm]at hkn;have em:=hm.symm
  by_cases hJ:J<L.length
  ·have q0:((J:Int)<L.length)=True:=eqt om;have gA:=qsR (q:=q) hJ;have gC:=qa6 (L:=qc1 q L J) (i:=J) om;rw[gA]at gC;have hEl:=jN (qc1 q L J);rw[hal]at hEl;have f1:(J*6+6≤L.length*6)=True:=eqt om;have f2:(m*6+6≤L.length*6)=True:=eqt om;have f3:(J<L.length)=True:=eqt hJ;have f4:(m<L.length)=True:=eqt om;have f5:((m:Int)<L.length)=True:=eqt om;have hS:=qpk (L:=qc1 q L J) (i:=m) (L.getD J default) om;obtain⟨e,he⟩: ∃e,e=L.getD J default:=⟨_,rfl⟩
   have ee:=he.symm;rw[ee]at gC hS;cases hqe:q e with
   |true=>
    simp (disch:=omega) only[q0,tE,lE,s1,s2,s3,s4,hEl,f1,f5,gC,i2',em,go_sem]
    repeat' first
     |(refine qw (cl2 _ _ _) ?_;simp (disch:=omega) only[hqe,tE,lE,hS,s1,s2,s4,hEl,f2,f5,go_sem])
     |with_reducible apply aiA
    all_goals try exact clz
    have kd:=qhk hJ (ee▸hqe);have ad:qc1 q L (J+1)=qc1 q L J:=by unfold qc1;rw[kd]
    refine hK _ _ (J+1,.mem (qr (some O)+1) 58 (enC e)) ⟨hJ,rfl,by simp only[kd];omega⟩ (by simp only;omega) ?_;simp only[kd,ad,em];refine Wk.temps ?_
    (simp only[go_sem,qj,qd,qa,qi];try (repeat' first|(with_reducible apply aiA)|(apply qh;omega)|(apply qg;rfl)|exact qk))
   |false=>
    simp (disch:=omega) only[q0,tE,lE,s1,s2,s3,s4,hEl,f1,f5,gC,i2',em,go_sem]
    repeat' first
     |(refine qw (cl2 _ _ _) ?_;simp (disch:=omega) only[hqe,tE,lE,hS,s1,s2,s4,hEl,f2,f5,go_sem])
     |with_reducible apply aiA
    all_goals try exact clz
    have kd:=qe6 hJ (ee▸hqe);have ad:=qoz hJ (ee▸hqe);have kl:(jA q L (J+1)).length=m+1:=by rw[kd,lap,em];rfl
    rw[em,ee]at ad;refine hK _ _ (J+1,.mem (qr (some O)+1) 58 (enC e)) ⟨hJ,rfl,by simp only[kl];omega⟩ (by simp only;omega) ?_;simp only[kl,ad];refine Wk.temps ?_
    (simp only[go_sem,qj,qd,qa,qi];try (repeat' first|(with_reducible apply aiA)|(apply qh;omega)|(apply qg;rfl)|exact qk))
  have q0:((J:Int)<L.length)=False:=eqf om;obtain rfl:J=L.length:=by omega
  have hA:qc1 q L L.length=(jA q L L.length)++L.drop m:=by unfold qc1;rw[em]
  have hEl:=jN (qc1 q L L.length);rw[hal]at hEl;have q1:((m:Int)=0∨(m:Int)<L.length)=True:=eqt (.inr om);have q2:(m*6+(L.length-m)*6≤L.length*6)=True:=eqt om;have q3:(m≤L.length)=True:=eqt om;have q4:m*6+(L.length-m)*6=L.length*6:=by omega
  have q5:((m:Int)≤L.length)=True:=eqt om;have d1:List.take (m*6) (jh (qc1 q L L.length))=jh (jA q L L.length):=by
   rw[qeR,hA,hm,List.take_left]
  have d2:List.drop (L.length*6) (jh (qc1 q L L.length))= []:=List.drop_eq_nil_of_le om;have zE:qS [.int .i64 0,.int .i64 0,.int .i64 0,.bool false,.nl,.nl]=qS zEn:=rfl;rw[em];simp (disch:=omega) only[q0,s1,s2,s3,s4,hEl,q1,q4,q5,d1,d2,zE,go_sem]
  repeat' first
   |with_reducible apply aiA
  all_goals try exact clz
  have eK:=qpW (q:=q) (L:=L);rw[hm,eK];refine qlK (by simp only[go_sem]) jj (low_setO (fun n c hc=> ?_)) ⟨rfl,rfl⟩ ?_
  ·rcases List.mem_append.1 hc with hc|hc
   ·exact qg4 _ n c hc
   ·exact qmc _ n c hc
  ·simp only[go_sem,Nat.sub_zero];rw[ine om];exact qk
 ·rw[h2]at cix;have eF:(L.filter fun e=> !q e)=L:=by
   rw[List.filter_eq_self];intro e he;obtain⟨j,hj,rfl⟩:=List.getElem_of_mem he
   have:=h1 j hj
   simp only[gdqA,zp hj,Option.getD_some]at this;simp[this]
  have eM:qS zEn (L.length-L.length)= []:=by rw[Nat.sub_self];rfl
  rw[eF,eM,lan,←e0];refine acO qlE ?_;simp (disch:=omega) only[qoM,go_sem]
  repeat' first
   |(refine cA (cix _) flk ?_;simp (disch:=omega) only[go_sem])
   |(apply qb;exact rvk;simp only[go_sem])
  rw[ine om];exact qk
theorem qDu(f:Nat)(cap:List AV)(h:List AObj):ACalls Tryz.prog 119 [zg [],.fn (.func f) [] cap] h (zg []) h:=by
 have cix:=fun h=>qba qrP 0 (fun j=>enC (([]:List En).getD j default)) (fun j=> .agg (enC (([]:List En).getD j default))) f [] cap (fun _=>false) h (fun i hi=>absurd hi om) (fun i hi=>absurd hi om) om
 have zz:zg []= .sl 0 fun j=>enC (([]:List En).getD j default):=rfl
 have zi:j8 (fun _=>false) 0 0= -1:=rfl;simp only[zi]at cix;rw[zz];refine acO qlE ?_;simp (disch:=omega) only[qoM,go_sem]
 repeat' first
  |(refine cA (cix _) flk ?_;simp (disch:=omega) only[go_sem])
  |(apply qb;exact rvk;simp only[go_sem];exact qk)
theorem of1(e:En)(y:Int)(h:List AObj):ACalls Tryz.prog 120 [.agg (enC e),.ip [.int .i64 y]] h (.bool (decide (¬e.layer=y))) h:=by
 by_cases g:e.layer=y
 ·have k1:(e.layer=y)=True:=eqt g;rw[dqf (fun hc=>hc g)];refine acO qrO ?_;simp (disch:=omega) only[qs7,enC,k1,go_sem]
  repeat' first
   |(apply qb;exact rvk;simp only[go_sem];exact qk)
   |with_reducible apply aiA
  all_goals try exact clz
 ·have k1:(e.layer=y)=False:=eqf g;rw[dqt g];refine acO qrO ?_;simp (disch:=omega) only[qs7,enC,k1,go_sem]
  repeat' first
   |(apply qb;exact rvk;simp only[go_sem];exact qk)
   |with_reducible apply aiA
  all_goals try exact clz
theorem qnl{v n:Nat}{L:List En}{T:List AV}{ty:TypeId}{fz:Nat→Bool}{h:List AObj}{d:Nat}(hn:n=L.length):VLe (qeh (some (.mem v ty (jh L++T))) v 6 0 n (rei fz h (d+1))) (zg L):=by
 subst hn;have hl:=jN L;rw[slOf_mem,ipo ⟨rfl,by rw[lap];omega⟩];refine VLe.sl_eq rfl fun i hi=> ?_
 have e1:((jh L++T).drop (0+i*6)).take 6=enC (L.getD i default):=by
  rw[Nat.zero_add,List.drop_append_of_le_length om,List.take_append_of_le_length (by rw[List.length_drop];omega),qa6 hi]
 rw[e1];rfl
theorem ofP(L:List En)(y:Int)(h:List AObj)(hl:L.length≤1000000):ACalls Tryz.prog 45 [zg L,.int .i64 y] h (zg (ofL L y)) h:=by
 by_cases h0:L= []
 ·subst h0;have c1:=fun h=>qEc h
  have c2:=fun h=>qDu 120 [.op h.length 1 0] h
  have e0:ofL [] y= []:=rfl;rw[e0];refine acO qzL ?_;simp (disch:=omega) only[qBQ,go_sem]
  repeat' first
   |((first|refine cA (c1 _) ?_ ?_|refine cA (qDu _ _ _) ?_ ?_);exact flk;simp (disch:=omega) only[go_sem])
   |(apply qb;exact rvk;simp only[go_sem];exact qk)
 ·refine acO qzL ?_;simp (disch:=omega) only[qBQ,go_sem];refine qa4 (qEb L _ (h.length+2) (by simp only[go_sem]) h0 hl) (by exact flk) ?_;simp (disch:=omega) only[go_sem];refine qa4 (qEi L (fun e=>decide (¬e.layer=y)) 120 y h.length 1 (h.length+2) 1 _ (by simp only[go_sem]) (by simp only[go_sem]) om hl (fun e hh=>of1 e y hh)) (by exact flk) ?_;have eF:(L.filter fun e=> !decide (¬e.layer=y))=ofL L y:=List.filter_congr fun e _=>by
   by_cases g:e.layer=y
   ·simp[g]
   ·simp[g]
  rw[eF];simp (disch:=omega) only[go_sem]
  repeat' first
   |(apply qb;exact rvk;simp only[go_sem])
  have hs:=qnl (v:=1) (n:=(ofL L y).length) (L:=ofL L y) (T:=qS zEn (L.length-(ofL L y).length)) (ty:=58) (fz:=fun k=>decide (h.length≤k)) (h:=h++ [AObj.mem 1 3 [AV.int IntKind.i64 y],AObj.emp 1,AObj.mem 1 58 (jh (ofL L y)++qS zEn (L.length-(ofL L y).length))]) (d:=6) rfl;rw[slOf_mem]at hs;simpa only[true_and,Nat.zero_add] using hs
end RC
end
section
open Go Go.Proofs AF
end
section
open Go Go.Proofs AF HY LN
namespace RC
end RC
end
section
open Go Go.Proofs AF
end
section
open Go Go.Proofs AF HY LN
namespace RC
theorem qAu(b:List Wd)(k:Int): ∀n,(owG b k n).length≤n:=by
 intro n
 induction n with
 |zero=>exact nlr _
 |succ n ih=>
  unfold owG;rw[lap];split
  ·simp only[lco,lnl];omega
  ·simp only[lnl];omega
theorem qCL(b:List Wd)(k:Int)(h:List AObj)(hn:b.length≤1000000):ACalls Tryz.prog 100 [qZ b,.int .i64 k] h (strs (owG b k b.length)) h:=by
 refine acO qyw ?_;simp (disch:=omega) only[qwT,qZ,go_sem];have eM:qS [AV.str []] 0=zY (owG b k 0):=rfl;rw[eM];refine qn (T:=fun s:Nat×Nat×AObj=>qI 30 [(0,qZ b),(1,.int .i64 k),(5,.osl (h.length+1) s.2.1 1 0 (owG b k s.1).length),(6,.int .i64 s.1)])
  (H:=fun s=>h++ [.emp 1,.mem s.2.1 9 (zY (owG b k s.1)),s.2.2,.emp 0])
  (inv:=fun s=>s.1≤b.length∧qC [s.2.2] 0=true) (m:=fun s=>b.length-s.1) (0,1,.emp 0) ⟨nzl _,rfl⟩ (Wk.temps ?_) ?_
 ·(simp only[qZ,owG,go_sem,qj,qd,qa,qi];try (repeat' first|(with_reducible apply aiA)|(apply qh;omega)|(apply qg;rfl)|exact qk))
 rintro⟨i,v,O2⟩ ⟨i1,i3⟩ K hK;simp only at i1 i3 hK;have i3': ∀m,qC (O2::m) 0=true:=fun _=>i3
 have hol:=qAu b k i
 by_cases hi:i<b.length
 ·have k1:((i:Int)<b.length)=True:=eqt om;have k2:(0≤(i:Int))=True:=eqt om;have hS:owG b k (i+1)=owG b k i++if (b.getD i default).unit=k then [(b.getD i default).text] else []:=rfl
  obtain⟨L,hL⟩: ∃L,L=owG b k i:=⟨_,rfl⟩
  rw[←hL]at hS hol ⊢;obtain⟨w,hw⟩: ∃w,w=b.getD i default:=⟨_,rfl⟩
  have ew:=hw.symm;rw[ew]at hS;have eC:=jb L;have eTk:List.take L.length (zY L)=zY L:=ltl om
  by_cases g:w.unit=k
  ·have q1:(w.unit=k)=True:=eqt g;rw[ipo g]at hS;simp (disch:=omega) only[qZ,wdC,k1,k2,ew,i3',q1,eC,eTk,Nat.mul_one,go_sem]
   repeat' first
    |with_reducible apply aiA
   all_goals try exact clz
   have eA:zY L++ [AV.str w.text]=zY (L++ [w.text]):=by simp[zY]
   have eD:(AV.str w.text::List.drop 1 (qS [AV.str []] 1))= [AV.str w.text]:=rfl;rw[eA,eD];refine hK _ _ (i+1,v+1,.mem (qr (some O2)+1) 9 [.str w.text]) ⟨hi,rfl⟩ (by simp only;omega) ?_;simp only[hS,lap,lco,lnl];refine Wk.temps ?_
   (simp only[qZ,wdC,go_sem,qj,qd,qa,qi];try (repeat' first|(with_reducible apply aiA)|(apply qh;omega)|(apply qg;rfl)|exact qk))
  ·have q1:(w.unit=k)=False:=eqf g;rw[ine g,lan]at hS;simp (disch:=omega) only[qZ,wdC,k1,k2,ew,i3',q1,go_sem];refine hK _ _ (i+1,v,O2) ⟨hi,i3⟩ (by simp only;omega) ?_;simp only[hS];refine Wk.temps ?_
   (simp only[qZ,wdC,go_sem,qj,qd,qa,qi];try (repeat' first|(with_reducible apply aiA)|(apply qh;omega)|(apply qg;rfl)|exact qk))
 have k1:((i:Int)<b.length)=False:=eqf om;obtain rfl:i=b.length:=by omega
 simp (disch:=omega) only[qZ,k1,go_sem]
 repeat' first
  |(apply qb;exact rvk;simp only[go_sem])
 rw[ipo (by rw[jb];exact nlr _)];exact qel _ (fun _=>rfl) rfl
end RC
end
section
open Go Go.Proofs AF
end
section
open Go Go.Proofs AF HY LN
namespace RC
end RC
end
section
open Go Go.Proofs AF
end
section
open Go Go.Proofs AF HY LN
namespace RC
end RC
end
section
open Go Go.Proofs AF
end
section
open Go Go.Proofs AF HY LN
namespace RC
theorem qoS(q:Nat→Bool)(a:Nat): ∀d,cP q a≤cP q (a+d)∧cP q (a+d)≤cP q a+d:=by
 intro d
 induction d with
 |zero=>exact⟨nlr _,nlr _⟩
 |succ d ih=>
  have e:cP q (a+(d+1))=cP q (a+d)+if q (a+d)=true then 1 else 0:=rfl
  rw[e];split<;>omega
theorem qtx{q:Nat→Bool}{a:Nat}: ∀ {d:Nat},(∀j,a≤j→j<a+d→q j=false)→cP q (a+d)=cP q a:=by
 intro d
 induction d with
 |zero=>intro _;rfl
 |succ d ih=>
  intro h;have e:cP q (a+(d+1))=cP q (a+d)+if q (a+d)=true then 1 else 0:=rfl
  rw[e,ih fun j h1 h2=>h j h1 om,h (a+d) om om];rfl
theorem qET(b:List Wd)(u:Int)(h:List AObj)(hn:b.length≤1000000):ACalls Tryz.prog 75 [qZ b,.int .i64 u] h (.tup [.int .i64 (qq2 (inU b u) b.length),.int .i64 (qq3 (inU b u) b.length),.int .i64 (qgw (inU b u) b.length)]) h:=by
 have c1:=fun h=>qCL b u h hn
 have hlen:(owG b u b.length).length=cP (inU b u) b.length:=quX b u b.length;obtain⟨W,hW⟩: ∃W,W=owG b u b.length:=⟨_,rfl⟩
 rw[←hW]at hlen;simp only[←hW]at c1;have zl: ∀g,valL g .len [strs W]= .int .i64 W.length:=fun _=>rfl
 have zo: ∀g,okL g .len [strs W]=True:=fun _=>eqt trivial
 unfold qZ at c1;obtain⟨E,hE⟩: ∃E,E=qgw (inU b u) b.length:=⟨_,rfl⟩
 obtain⟨F,hF⟩: ∃F,F=qq2 (inU b u) b.length:=⟨_,rfl⟩
 obtain⟨G,hG⟩: ∃G,G=qq3 (inU b u) b.length:=⟨_,rfl⟩
 rw[←hE,←hF,←hG];unfold qq2 at hF;unfold qq3 at hG;rw[←hE]at hF hG;unfold qgw at hE;refine acO qCn ?_;simp (disch:=omega) only[qDq,qZ,go_sem];refine qn (T:=fun i:Nat=>qI 50 [(0,qZ b),(1,.int .i64 u),(7,.int .i64 i)]) (H:=fun _=>h) (inv:=fun i=>i≤b.length∧ ∀j,j<i→inU b u j=false) (m:=fun i=>b.length-i) 0 ⟨nzl _,fun j hj=>absurd hj (nnz j)⟩ (Wk.temps ?_) ?_
 ·(simp only[qZ,go_sem,qj,qd,qa,qi];try (repeat' first|(with_reducible apply aiA)|(apply qh;omega)|(apply qg;rfl)|exact qk))
 rintro f ⟨f1,f2⟩ K hK
 by_cases hf:f<b.length
 case neg=>
  obtain rfl:f=b.length:=by omega
  have hix:j8 (inU b u) b.length 0= -1:=by
   rcases zy (inU b u) b.length with⟨i,h1,h2,_,_⟩|⟨_,h2⟩
   ·exact absurd h2 (by simp[f2 i h1])
   ·exact h2
  have e1:E=6:=by rw[hE,hix,ipo (by decide)]
  have e2:F=0:=by rw[hF,e1,ine (by decide)]
  have e3:G=0:=by rw[hG,e1,ine (by decide)]
  have k1:((b.length:Int)<b.length)=False:=eqf om;rw[e1,e2,e3];simp (disch:=omega) only[qZ,k1,go_sem]
  repeat' first
   |(apply qe;exact rvk;simp only[go_sem];exact qk)
 have k1:((f:Int)<b.length)=True:=eqt om;have k0:(0≤(f:Int))=True:=eqt om;have hq:inU b u f=decide ((b.getD f default).unit=u):=rfl;obtain⟨w,hw⟩: ∃w,w=b.getD f default:=⟨_,rfl⟩
 have ew:=hw.symm;rw[ew]at hq
 by_cases g1:w.unit=u
 case neg=>
  have q1:(w.unit=u)=False:=eqf g1;rw[dqf g1]at hq;simp (disch:=omega) only[qZ,wdC,k0,k1,ew,q1,go_sem];refine hK _ _ (f+1) ⟨hf,fun j hj=> ?_⟩ om (Wk.temps ?_)
  ·by_cases e:j=f
   ·subst e;exact hq
   ·exact f2 j om
  ·(simp only[qZ,go_sem,qj,qd,qa,qi];try (repeat' first|(with_reducible apply aiA)|(apply qh;omega)|(apply qg;rfl)|exact qk))
 have q1:(w.unit=u)=True:=eqt g1;rw[dqt g1]at hq;have hix:j8 (inU b u) b.length 0=f:=kg hf f2 hq;have kne:((f:Int)=b.length)=False:=eqf om;have hcp:=qgZ (q:=inU b u) (f:=f) (t:=f) (nlr _) f2 (fun i h1 h2=>by omega) (n:=b.length) f1;obtain⟨r1,r2⟩:=qvw hf f2 hq;have hcle:f+W.length≤b.length:=by
  rw[hlen]
  have:=qoS (inU b u) f (b.length-f)
  rw[show f+(b.length-f)=b.length by omega]at this
  have:=qtx (q:=inU b u) (a:=0) (d:=f) (fun j _ hj=>f2 j om)
  rw[Nat.zero_add]at this;have h0:cP (inU b u) 0=0:=rfl;omega
 rw[←hlen]at r1 r2;rw[hix,ine om,itn]at hE;rw[hix]at hF hG;rw[itn]at hG;rw[r1]at hE;simp (disch:=omega) only[qZ,wdC,k0,k1,ew,q1,go_sem]
 repeat' first
  |(refine cA (c1 _) flk ?_;simp (disch:=omega) only[kne,zl,zo,go_sem])
  |(apply qe;exact rvk;simp only[go_sem])
  |with_reducible first|intro _|apply aiA
 all_goals try exact clz
 clear hK;refine qn (T:=fun i:Nat=>qI 50 [(0,qZ b),(1,.int .i64 u),(7,.int .i64 f),(8,.int .i64 ((f+W.length:Nat):Int)),(9,.int .i64 i)]) (H:=fun _=>h) (inv:=fun i=>f≤i∧i≤f+W.length∧ ∀j,f≤j→j<i→inU b u j=true) (m:=fun i=>f+W.length-i) f ⟨nlr _,om,fun j h1 h2=>by omega⟩ (Wk.temps ?_) ?_
 ·(simp only[qZ,go_sem,qj,qd,qa,qi];try (repeat' first|(with_reducible apply aiA)|(apply qh;omega)|(apply qg;rfl)|exact qk))
 rintro i ⟨i1,i2,i3⟩ K hK
 by_cases hi:i<f+W.length
 ·have t1:((i:Int)<((f+W.length:Nat):Int))=True:=eqt om;have t1':((i:Int)<(f:Int)+(W.length:Int))=True:=eqt om;have t2:((i:Int)<b.length)=True:=eqt om;have t0:(0≤(i:Int))=True:=eqt om;have hqi:inU b u i=decide ((b.getD i default).unit=u):=rfl;obtain⟨y,hy⟩: ∃y,y=b.getD i default:=⟨_,rfl⟩
  have ey:=hy.symm;rw[ey]at hqi
  by_cases g2:y.unit=u
  ·have p1:(y.unit=u)=True:=eqt g2;rw[dqt g2]at hqi;simp (disch:=omega) only[qZ,wdC,t0,t1,t2,ey,p1,go_sem];refine hK _ _ (i+1) ⟨om,hi,fun j h1 h2=> ?_⟩ om (Wk.temps ?_)
   ·by_cases e:j=i
    ·subst e;exact hqi
    ·exact i3 j h1 om
   ·(simp only[qZ,go_sem,qj,qd,qa,qi];try (repeat' first|(with_reducible apply aiA)|(apply qh;omega)|(apply qg;rfl)|exact qk))
  ·have p1:(y.unit=u)=False:=eqf g2;rw[dqf g2]at hqi;rw[qG.2 ⟨i,om,by rw[dqt i1,dqt hi,hqi];rfl⟩,ipo rfl]at hE;rw[hE,ine (by decide)]at hF hG;rw[hE,hF,hG];simp (disch:=omega) only[qZ,wdC,t0,t1,t2,ey,p1,go_sem]
   repeat' first
    |(apply qe;exact rvk;simp only[go_sem];exact qk)
 ·obtain rfl:i=f+W.length:=by omega
  have hno:zd (fun i=>decide (f≤i)&&(decide (i<f+W.length)&& !inU b u i)) b.length=false:=qo.2 fun j hj=>by
   by_cases h1:f≤j
   ·by_cases h2:j<f+W.length
    ·rw[i3 j h1 h2];simp
    ·rw[dqf h2];simp
   ·rw[dqf h1];rfl
  rw[hno,ine (by simp)]at hE;rw[hE,ipo rfl]at hF hG;have r2:=r2 (by rw[r1];exact hno);rw[←r2]at hG;rw[hE,hF,hG];have t1:(((f+W.length:Nat):Int)<((f+W.length:Nat):Int))=False:=eqf om;have t1':(((f+W.length:Nat):Int)<(f:Int)+(W.length:Int))=False:=eqf om;simp (disch:=omega) only[qZ,t1,go_sem]
  repeat' first
   |(apply qe;exact rvk;simp only[go_sem];exact qk)
theorem qp4(L:List En)(y:Int){n:Nat}(hn:n<L.length):ofL (L.take (n+1)) y=ofL (L.take n) y++if (L.getD n default).layer=y then [L.getD n default] else []:=by
 have e:L.take (n+1)=L.take n++ [L.getD n default]:=qen hn;unfold ofL;rw[e,List.filter_append];congr 1
 by_cases g:(L.getD n default).layer=y
 ·rw[ipo g,List.filter_cons_of_pos (by simpa using g)];rfl
 ·rw[ine g,List.filter_cons_of_neg (by simpa using g)];rfl
theorem ofR(l:List En)(y:Int)(h:List AObj)(hl:l.length≤1000000):ACalls Tryz.prog 76 [zg l,.int .i64 y] h (zg (ofL l y)) h:=by
 refine acO qCo ?_;simp (disch:=omega) only[qDr,zg,go_sem];have eM:qS zEn 0=jh (ofL (l.take 0) y):=rfl;unfold zEn at eM
 try rw[eM]
 refine qn (T:=fun s:Nat×Nat×AObj=>qI 29 [(0,zg l),(1,.int .i64 y),(5,.osl (h.length+1) s.2.1 6 0 (ofL (l.take s.1) y).length),(6,.int .i64 s.1)])
  (H:=fun s=>h++ [.emp 1,.mem s.2.1 58 (jh (ofL (l.take s.1) y)),s.2.2,.emp 0])
  (inv:=fun s=>s.1≤l.length∧qC [s.2.2] 0=true) (m:=fun s=>l.length-s.1) (0,1,.emp 0) ⟨nzl _,rfl⟩ (Wk.temps ?_) ?_
 ·(simp only[zg,List.take_zero,ofL,List.filter_nil,lnl,go_sem,qj,qd,qa,qi];try (repeat' first|(with_reducible apply aiA)|(apply qh;omega)|(apply qg;rfl)|exact qk))
 rintro⟨i,v,O⟩ ⟨i1,i2⟩ K hK;simp only at i1 i2 hK;have i2': ∀m,qC (O::m) 0=true:=fun _=>i2
 have hle:(ofL (l.take i) y).length≤l.length:=by
  unfold ofL
  have:=List.length_filter_le (fun e:En=>decide (e.layer=y)) (l.take i)
  have:=List.length_take_le i l
  have:(l.take i).length≤l.length:=by rw[List.length_take];omega
  omega
 by_cases hi:i<l.length
 ·have k1:((i:Int)<l.length)=True:=eqt om;have k0:(0≤(i:Int))=True:=eqt om;have hS:=qp4 l y hi;obtain⟨L,hL⟩: ∃L,L=ofL (l.take i) y:=⟨_,rfl⟩
  rw[←hL]at hS hle ⊢;obtain⟨e,he⟩: ∃e,e=l.getD i default:=⟨_,rfl⟩
  have ee:=he.symm;rw[ee]at hS;have eC:=jN L;have eTk:List.take (L.length*6) (jh L)=jh L:=ltl om
  by_cases g:e.layer=y
  ·have q1:(e.layer=y)=True:=eqt g;rw[ipo g]at hS;simp (disch:=omega) only[zg,enC,k0,k1,ee,i2',q1,eC,eTk,go_sem]
   repeat' first
    |with_reducible apply aiA
   all_goals try exact clz
   refine hK _ _ (i+1,v+1,.mem (qr (some O)+1) 58 (enC e)) ⟨hi,rfl⟩ (by simp only;omega) ?_;simp only[hS,qce,qdP,lap,lco,lnl,enC];refine Wk.temps ?_
   (simp only[zg,enC,go_sem,qj,qd,qa,qi];try (repeat' first|(with_reducible apply aiA)|(apply qh;omega)|(apply qg;rfl)|exact qk))
  ·have q1:(e.layer=y)=False:=eqf g;rw[ine g,lan]at hS;simp (disch:=omega) only[zg,enC,k0,k1,ee,i2',q1,go_sem];refine hK _ _ (i+1,v,O) ⟨hi,i2⟩ (by simp only;omega) ?_;simp only[hS];refine Wk.temps ?_
   (simp only[zg,enC,go_sem,qj,qd,qa,qi];try (repeat' first|(with_reducible apply aiA)|(apply qh;omega)|(apply qg;rfl)|exact qk))
 have k1:((i:Int)<l.length)=False:=eqf om;obtain rfl:i=l.length:=by omega
 rw[List.take_length];simp (disch:=omega) only[zg,k1,go_sem]
 repeat' first
  |(apply qb;exact rvk;simp only[go_sem])
 rw[ipo (by rw[jN];exact nlr _)];exact qpl rfl
end RC
end
section
open Go Go.Proofs AF
def qpR:List Nat:= []
def qtd:C:=
 ((C.ops [ON 4 (.nilo 0 1 3) [],MC 5 (i6 0)]).seq (((C.ops [MV 8 0,BC 9 .lss 8 (i6 0),MV 10 9,MG 11 10 false 0,PC 12 10 false (.bin .gtr) 11 (i6 64),PT 13 10 12]).seq (C.cond
 (.t 13) ((C.ops [ON 4 (.nilo 0 1 3) [],MC 5 (i6 2)]).seq C.ret) C.skip)).seq (((C.ops [MV 14 1,O1 15 (.call 203 true) 14,BC 16 .neq 15 (i6 0)]).seq (C.cond (.t 16) ((C.ops [ON 4
 (.nilo 0 1 3) [],MC 5 (i6 1)]).seq C.ret) C.skip)).seq (((C.ops [MV 17 1,O1 18 .len 17,BC 19 .gtr 18 (i6 0),MV 20 19,MG 21 20 true 1,MG 22 20 true 1,P1 23 20 true .len 22,
 PC 24 20 true (.bin .sub) 23 (i6 1),P2 25 20 true (.idxA 1) 21 24,P1 26 20 true (.load none) 25,MG 27 20 true 0,P2 28 20 true (.bin .geq) 26 27,PF 29 20 28]).seq (C.cond (.t
 29) ((C.ops [ON 4 (.nilo 0 1 3) [],MC 5 (i6 2)]).seq C.ret) C.skip)).seq ((C.ops [⟨some 30,none,.bslc 1 1 0 3 [i6 0] [],[]⟩,MV 6 30]).seq (((C.ops [MC 7 (i6 0)]).seq (C.block
 0 (((C.ops [MV 31 7,MV 32 0,BI 33 .lss 31 32]).seq (C.cond (.t 33) C.skip (C.exit 0))).seq ((C.block 1 ((C.ops [MV 36 1,MV 37 7,O2 38 (.call 202 true) 36 37,O1 39 (.un
 UnOp.not) 38]).seq (C.cond (.t 39) (C.ops [MV 40 6,MV 41 7,⟨some 42,none,.bslc 2 1 1 3 [i6 0] [(0,1)],[.t 41]⟩,O2 43 (.app 3 1 3 8) 40 42,MV 6 43]) C.skip))).seq (C.ops [MV
 34 7,BC 35 .add 34 (i6 1),MV 7 35]))).loop)).seq ((C.ops [MV 44 6,MV 4 44,MC 5 (i6 0)]).seq
 C.ret)))))))
theorem qrY:qB Tryz.prog 148 45 4 [RV.tmp 4,RV.tmp 5] qtd:=fi Tryz.f148 [4,30,42,43] qpR []
end
