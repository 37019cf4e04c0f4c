import Derived.Test.YtgoandblgcjleaaGreatDoorK11
import Derived.Test.YtgoandblgcjleaaGreatDoorK3
import Derived.Test.YtgoandblgcjleaaGreatDoorK5
import Derived.Test.YtgoandblgcjleaaGreatDoorK8
import Derived.Test.YtgoandblgcjleaaGreatDoorProg
set_option linter.all false
set_option linter.unusedSimpArgs false
set_option linter.unusedVariables false
set_option linter.unusedSectionVars false
set_option maxHeartbeats 64000000
set_option maxRecDepth 100000
section
open Go Go.Proofs AF HY LN
namespace RC
theorem qhN(s:Str):(qcb s=true∧wE s=0)∨(qcb s=false∧wE s=11):=by
 unfold wE;cases qcb s with
 |true=>exact .inl ⟨rfl,rfl⟩
 |false=>exact .inr ⟨rfl,rfl⟩
theorem qD7(names:List Str)(gs:List Gr)(t:List Str)(e:En)(h:List AObj)(hz:Szs names gs)(ht:TSz t)(he:ESz e)(hgm: ∀i,(gs.getD i default).mem.length≤1000)(hsg: ∀i,(e.vars.getD i default).sigla.length≤1000000)(hsp:e.sup.length≤1000000)(hp:qag SG h):
  ACalls Tryz.prog 73 [strs names,qu gs,strs t,.agg (enC e)] h (.int .i64 (qol names gs t e)) h:=by
 have c49:=fun h=>sgR names gs h hz
 have t1:=ht.n;obtain⟨R,hR⟩: ∃R,R=qol names gs t e:=⟨_,rfl⟩
 rw[←hR];unfold qol at hR;obtain⟨s,hs⟩: ∃s,s=sgE names gs:=⟨_,rfl⟩
 rw[←hs]at c49 hR
 by_cases g0:s≠0
 ·have k0:(s=0)=False:=eqf g0;rw[ipo g0]at hR;rw[hR];refine acO qum ?_;simp (disch:=omega) only[qBy,enC,go_sem]
  repeat' first
   |(refine cA (c49 _) flk ?_;simp (disch:=omega) only[k0,go_sem])
   |(apply qb;exact rvk;simp only[go_sem];exact qk)
 have g0:s=0:=Classical.not_not.1 g0;have k0:(s=0)=True:=eqt g0;rw[ine (fun hc=>hc g0)]at hR;unfold strs at c49
 by_cases g1:4096<t.length
 ·have k1:((4096:Int)<t.length)=True:=eqt om;rw[ipo g1]at hR;rw[hR];refine acO qum ?_;simp (disch:=omega) only[qBy,enC,strs,go_sem]
  repeat' first
   |(refine cA (c49 _) flk ?_;simp (disch:=omega) only[k0,k1,go_sem])
   |(apply qb;exact rvk;simp only[go_sem];exact qk)
 have k1:((4096:Int)<t.length)=False:=eqf om;rw[ine g1]at hR;refine acO qum ?_;simp (disch:=omega) only[qBy,enC,strs,qW,go_sem]
 repeat' first
  |(refine cA (c49 _) flk ?_;simp (disch:=omega) only[k0,k1,go_sem])
 obtain⟨E1,hE1⟩: ∃E1,E1=AObj.mem 1 58 [.int .i64 e.layer,.int .i64 e.frm,.int .i64 e.to,.bool e.pos,strs e.sup,qW e.vars]:=⟨_,rfl⟩
 refine qn (T:=fun i:Nat=>qI 186 [(0,strs names),(1,qu gs),(2,strs t),(7,.op h.length 1 0),(9,.int .i64 i)])
  (H:=fun i=>h++ [.mem 1 58 [.int .i64 e.layer,.int .i64 e.frm,.int .i64 e.to,.bool e.pos,strs e.sup,qW e.vars],.emp 0])
  (inv:=fun i=>i≤t.length∧ ∀j,j<i→wE (t.getD j [])=0) (m:=fun i=>t.length-i) 0 ⟨nzl _,fun j hj=>absurd hj (nnz j)⟩ (Wk.temps ?_) ?_
 ·(simp only[strs,go_sem,qj,qd,qa,qi];try (repeat' first|(with_reducible apply aiA)|(apply qh;omega)|(apply qg;rfl)|exact qk))
 rintro i ⟨i1,i2⟩ K hK
 by_cases hi:i<t.length
 ·have r1:((i:Int)<t.length)=True:=eqt om;have hE:=qO (f:=fun i=>wE (t.getD i [])) hi i2;have c84:=fun l=>qsH (t.getD i []) (h++l) (ht.s i) (hp.app l)
  have hw:=qhN (t.getD i []);obtain⟨x,hx⟩: ∃x,x=t.getD i []:=⟨_,rfl⟩
  have ex:=hx.symm;simp only[ex]at hE c84 hw;rcases hw with⟨w1,w2⟩|⟨w1,w2⟩
  ·rw[w1]at c84;simp (disch:=omega) only[strs,qW,r1,ex,go_sem]
   repeat' first
    |(refine cA (c84 _) flk ?_;simp (disch:=omega) only[go_sem])
    |with_reducible apply aiA
   all_goals try exact clz
   refine hK _ _ (i+1) ⟨hi,fun j hj=> ?_⟩ om (Wk.temps ?_)
   ·by_cases e':j=i
    ·subst e';rw[ex];exact w2
    ·exact i2 j om
   ·(simp only[strs,go_sem,qj,qd,qa,qi];try (repeat' first|(with_reducible apply aiA)|(apply qh;omega)|(apply qg;rfl)|exact qk))
  ·rw[w1]at c84;have hV:R=11:=by
    rw[hR,ipo (by unfold kp;rw[hE (by rw[w2];decide),w2];decide)]
   rw[hV];simp (disch:=omega) only[strs,qW,r1,ex,go_sem]
   repeat' first
    |(refine cA (c84 _) flk ?_;simp (disch:=omega) only[go_sem])
    |(apply qb;exact rvk;simp only[go_sem];exact qk)
    |with_reducible apply aiA
   all_goals try exact clz
 have r1:((i:Int)<t.length)=False:=eqf om;have hw0:kp t=0:=qz (f:=fun i=>wE (t.getD i [])) (fun j hj=>i2 j om);rw[ine (fun hc=>hc hw0)]at hR
 by_cases g3:qjC t e
 ·rw[ipo g3]at hR;rw[hR]
  by_cases a1:e.layer<0
  ·have q1:(e.layer<0)=True:=eqt a1;simp (disch:=omega) only[strs,qW,r1,go_sem]
   repeat' first
    |(apply qb;exact rvk;simp only[go_sem];first|exact qk|apply qh)
    |with_reducible first|intro _|apply aiA
   all_goals try exact clz
  have q1:(e.layer<0)=False:=eqf a1
  by_cases a2:15<e.layer
  ·have q2:(15<e.layer)=True:=eqt a2;simp (disch:=omega) only[strs,qW,r1,go_sem]
   repeat' first
    |(apply qb;exact rvk;simp only[go_sem];first|exact qk|apply qh)
    |with_reducible first|intro _|apply aiA
   all_goals try exact clz
  have q2:(15<e.layer)=False:=eqf a2
  by_cases a3:e.frm<0
  ·have q3:(e.frm<0)=True:=eqt a3;simp (disch:=omega) only[strs,qW,r1,go_sem]
   repeat' first
    |(apply qb;exact rvk;simp only[go_sem];first|exact qk|apply qh)
    |with_reducible first|intro _|apply aiA
   all_goals try exact clz
  have q3:(e.frm<0)=False:=eqf a3
  by_cases a4:e.to<e.frm
  ·have q4:(e.to<e.frm)=True:=eqt a4;simp (disch:=omega) only[strs,qW,r1,go_sem]
   repeat' first
    |(apply qb;exact rvk;simp only[go_sem];first|exact qk|apply qh)
    |with_reducible first|intro _|apply aiA
   all_goals try exact clz
  have q4:(e.to<e.frm)=False:=eqf a4;have q5':(t.length:Int)<e.to:=by unfold qjC at g3;omega
  have q5:((t.length:Int)<e.to)=True:=eqt q5';simp (disch:=omega) only[strs,qW,r1,go_sem]
  repeat' first
   |(apply qb;exact rvk;simp only[go_sem];first|exact qk|apply qh)
   |with_reducible first|intro _|apply aiA
  all_goals try exact clz
  all_goals (exfalso;omega)
 rw[ine g3]at hR;unfold qjC at g3;have q1:(e.layer<0)=False:=eqf om;have q2:(15<e.layer)=False:=eqf om;have q3:(e.frm<0)=False:=eqf om;have q4:(e.to<e.frm)=False:=eqf om;have q5:((t.length:Int)<e.to)=False:=eqf om
 by_cases g4:0<e.sup.length∧e.pos=false
 ·have q6:((0:Int)<e.sup.length)=True:=eqt om;have q7:=g4.2;rw[ipo g4]at hR;rw[hR];simp (disch:=omega) only[strs,qW,r1,q7,go_sem]
  repeat' first
   |(apply qb;exact rvk;simp only[go_sem];first|exact qk|apply qh)
   |with_reducible first|intro _|apply aiA
  all_goals try exact clz
  all_goals (exfalso;omega)
 rw[ine g4]at hR
 by_cases g5:e.vars.length=0
 ·have q8:((e.vars.length:Int)=0)=True:=eqt om;rw[ipo g5]at hR;rw[hR]
  by_cases g6:0<e.sup.length
  ·have q6:((0:Int)<e.sup.length)=True:=eqt om;have q7:e.pos=true:=by
    cases hq:e.pos with
    |true=>rfl
    |false=>exact absurd ⟨g6,hq⟩ g4
   simp (disch:=omega) only[strs,qW,r1,q7,go_sem]
   repeat' first
    |(apply qb;exact rvk;simp only[go_sem];first|exact qk|apply qh)
    |with_reducible first|intro _|apply aiA
   all_goals try exact clz
   all_goals (exfalso;omega)
  ·have q6:((0:Int)<e.sup.length)=False:=eqf om;simp (disch:=omega) only[strs,qW,r1,go_sem]
   repeat' first
    |(apply qb;exact rvk;simp only[go_sem];first|exact qk|apply qh)
    |with_reducible first|intro _|apply aiA
   all_goals try exact clz
   all_goals (exfalso;omega)
 have q8:((e.vars.length:Int)=0)=False:=eqf om;rw[ine g5]at hR;simp (disch:=omega) only[strs,qW,r1,go_sem]
 repeat' first
  |(apply qb;exact rvk;simp only[go_sem];apply qh)
  |with_reducible first|intro _|apply aiA
 all_goals try exact clz
 ·rename_i hx;exact absurd ⟨om,hx.2⟩ g4
 obtain⟨fr,hfr⟩: ∃fr:Nat,e.frm=fr:=⟨e.frm.toNat,om⟩
 obtain⟨tt,htt⟩: ∃tt:Nat,e.to=tt:=⟨e.to.toNat,om⟩
 refine qn (T:=fun i:Nat×Nat=>qI 186 [(0,strs names),(1,qu gs),(2,strs t),(7,.op h.length 1 0),(10,.int .i64 i.1)])
  (H:=fun i=>h++ [.mem 1 58 [.int .i64 e.layer,.int .i64 e.frm,.int .i64 e.to,.bool e.pos,strs e.sup,qW e.vars],.emp i.2])
  (inv:=fun i=>i.1≤e.vars.length∧ ∀j,j<i.1→qca t e j=0) (m:=fun i=>e.vars.length-i.1) (0,0) ⟨nzl _,fun j hj=>absurd hj (nnz j)⟩ (Wk.temps ?_) ?_
 ·(simp only[strs,go_sem,qj,qd,qa,qi];try (repeat' first|(with_reducible apply aiA)|(apply qh;omega)|(apply qg;rfl)|exact qk))
 clear hK;rintro⟨n,v⟩ ⟨n1,n2⟩ K1 hK1;simp only at n1 n2 hK1;have z2:=he.vs
 by_cases hn:n<e.vars.length
 ·have r2:((n:Int)<e.vars.length)=True:=eqt om;have r3:(0≤(fr:Int))=True:=eqt om;have r4:((fr:Int)≤tt)=True:=eqt om;have r5:((tt:Int)≤t.length)=True:=eqt om;have hE:=qO (f:=qca t e) hn n2;have hv:qca t e n=if kp (e.vars.getD n default).words≠0 then 11 else if (e.vars.getD n default).words=qaQ t e.frm.toNat e.to.toNat then 9 else
   if zd (fun j=>decide ((e.vars.getD n default).words=(e.vars.getD j default).words)) n=true then 7 else if (e.vars.getD n default).sigla.length=0 then 5 else 0:=rfl
  have zw:=he.w n;have zv:=fun j=>(he.w j).n
  obtain⟨x,hx⟩: ∃x,x=e.vars.getD n default:=⟨_,rfl⟩
  have ex:=hx.symm;simp only[ex]at hv zw;rw[hfr,htt,itn,itn]at hv;have zn:=zw.n;simp (disch:=omega) only[strs,qW,vaC,r2,ex,go_sem]
  repeat' first
   |with_reducible apply aiA
  all_goals try exact clz
  refine qn (T:=fun i:Nat=>qI 186 [(0,strs names),(1,qu gs),(2,strs t),(7,.op h.length 1 0),(10,.int .i64 n),(11,.op (h.length+1) (v+1) 0),(12,.int .i64 i)])
   (H:=fun _=>h++ [.mem 1 58 [.int .i64 e.layer,.int .i64 e.frm,.int .i64 e.to,.bool e.pos,strs e.sup,qW e.vars],.mem (v+1) 85 [strs x.words,strs x.sigla]])
   (inv:=fun i=>i≤x.words.length∧ ∀j,j<i→wE (x.words.getD j [])=0) (m:=fun i=>x.words.length-i) 0 ⟨nzl _,fun j hj=>absurd hj (nnz j)⟩ (Wk.temps ?_) ?_
  ·(simp only[strs,go_sem,qj,qd,qa,qi];try (repeat' first|(with_reducible apply aiA)|(apply qh;omega)|(apply qg;rfl)|exact qk))
  rintro k ⟨m1,m2⟩ K2 hK2
  by_cases hk:k<x.words.length
  ·have s1:((k:Int)<x.words.length)=True:=eqt om;have hE2:=qO (f:=fun i=>wE (x.words.getD i [])) hk m2;have c84:=fun l=>qsH (x.words.getD k []) (h++l) (zw.s k) (hp.app l)
   have hw:=qhN (x.words.getD k []);obtain⟨y,hy⟩: ∃y,y=x.words.getD k []:=⟨_,rfl⟩
   have ey:=hy.symm;simp only[ey]at hE2 c84 hw;rcases hw with⟨w1,w2⟩|⟨w1,w2⟩
   ·rw[w1]at c84;simp (disch:=omega) only[strs,qW,vaC,s1,ey,go_sem]
    repeat' first
     |(refine cA (c84 _) flk ?_;simp (disch:=omega) only[go_sem])
     |with_reducible apply aiA
    all_goals try exact clz
    refine hK2 _ _ (k+1) ⟨hk,fun j hj=> ?_⟩ om (Wk.temps ?_)
    ·by_cases e':j=k
     ·subst e';rw[ey];exact w2
     ·exact m2 j om
    ·(simp only[strs,go_sem,qj,qd,qa,qi];try (repeat' first|(with_reducible apply aiA)|(apply qh;omega)|(apply qg;rfl)|exact qk))
   ·rw[w1]at c84;rw[ipo (by unfold kp;rw[hE2 (by rw[w2];decide),w2];decide)]at hv;have hE:=hE (by rw[hv];decide);rw[hE,hv,ipo (by decide)]at hR;rw[hR];simp (disch:=omega) only[strs,qW,vaC,s1,ey,go_sem]
    repeat' first
     |(refine cA (c84 _) flk ?_;simp (disch:=omega) only[go_sem])
     |(apply qb;exact rvk;simp only[go_sem];exact qk)
     |with_reducible apply aiA
    all_goals try exact clz
  have s1:((k:Int)<x.words.length)=False:=eqf om;have hw0:kp x.words=0:=qz (f:=fun i=>wE (x.words.getD i [])) (fun j hj=>m2 j om);rw[ine (fun hc=>hc hw0)]at hv;have c85:=fun h=>smw x.words (tt-fr) (fun j=>t.getD (fr+j) []) h zw.n om
  rw[qhD om om]at c85;unfold strs at c85
  by_cases a2:x.words=qaQ t fr tt
  ·rw[dqt a2]at c85;rw[ipo a2]at hv;have hE:=hE (by rw[hv];decide);rw[hE,hv,ipo (by decide)]at hR;rw[hR];simp (disch:=omega) only[strs,qW,vaC,s1,hfr,htt,go_sem]
   repeat' first
    |(refine cA (c85 _) flk ?_;simp (disch:=omega) only[go_sem])
    |(apply qb;exact rvk;simp only[go_sem];exact qk)
    |with_reducible apply aiA
   all_goals try exact clz
  rw[dqf a2]at c85;rw[ine a2]at hv;simp (disch:=omega) only[strs,qW,vaC,s1,hfr,htt,go_sem]
  repeat' first
   |(refine cA (c85 _) flk ?_;simp (disch:=omega) only[go_sem])
   |with_reducible apply aiA
  all_goals try exact clz
  simp only[hfr,htt]at hK1;refine qn (T:=fun i:Nat=>qI 186 [(0,strs names),(1,qu gs),(2,strs t),(7,.op h.length 1 0),(10,.int .i64 n),(11,.op (h.length+1) (v+1) 0),(13,.int .i64 i)])
   (H:=fun _=>h++ [.mem 1 58 [.int .i64 e.layer,.int .i64 fr,.int .i64 tt,.bool e.pos,strs e.sup,qW e.vars],.mem (v+1) 85 [strs x.words,strs x.sigla]])
   (inv:=fun i=>i≤n∧ ∀j,j<i→decide (x.words=(e.vars.getD j default).words)=false) (m:=fun i=>n-i) 0 ⟨nzl _,fun j hj=>absurd hj (nnz j)⟩ (Wk.temps ?_) ?_
  ·(simp only[strs,go_sem,qj,qd,qa,qi];try (repeat' first|(with_reducible apply aiA)|(apply qh;omega)|(apply qg;rfl)|exact qk))
  clear hK2;rintro l ⟨l1,l2⟩ K3 hK3
  by_cases hl:l<n
  ·have s2:((l:Int)<n)=True:=eqt om;have s3:((l:Int)<e.vars.length)=True:=eqt om;have c86:=fun h=>qBE x.words (e.vars.getD l default).words h zw.n (zv l)
   obtain⟨y,hy⟩: ∃y,y=e.vars.getD l default:=⟨_,rfl⟩
   have ey:=hy.symm;simp only[ey]at c86;unfold strs at c86
   by_cases a3:x.words=y.words
   ·rw[dqt a3]at c86;rw[ipo (qG.2 ⟨l,hl,by rw[ey];exact dqt a3⟩)]at hv;have hE:=hE (by rw[hv];decide);rw[hE,hv,ipo (by decide)]at hR;rw[hR];simp (disch:=omega) only[strs,qW,vaC,s2,s3,ey,go_sem]
    repeat' first
     |(refine cA (c86 _) flk ?_;simp (disch:=omega) only[go_sem])
     |(apply qb;exact rvk;simp only[go_sem];exact qk)
     |with_reducible apply aiA
    all_goals try exact clz
   ·rw[dqf a3]at c86;simp (disch:=omega) only[strs,qW,vaC,s2,s3,ey,go_sem]
    repeat' first
     |(refine cA (c86 _) flk ?_;simp (disch:=omega) only[go_sem])
     |with_reducible apply aiA
    all_goals try exact clz
    refine hK3 _ _ (l+1) ⟨hl,fun j hj=> ?_⟩ om (Wk.temps ?_)
    ·by_cases e':j=l
     ·subst e';rw[ey];exact dqf a3
     ·exact l2 j om
    ·(simp only[strs,go_sem,qj,qd,qa,qi];try (repeat' first|(with_reducible apply aiA)|(apply qh;omega)|(apply qg;rfl)|exact qk))
  have s2:((l:Int)<n)=False:=eqf om;rw[ine (by rw[qo.2 fun j hj=>l2 j om];simp)]at hv
  by_cases a4:x.sigla.length=0
  ·have p4:((x.sigla.length:Int)=0)=True:=eqt om;rw[ipo a4]at hv;have hE:=hE (by rw[hv];decide);rw[hE,hv,ipo (by decide)]at hR;rw[hR];simp (disch:=omega) only[strs,qW,vaC,s2,go_sem]
   repeat' first
    |(apply qb;exact rvk;simp only[go_sem];exact qk)
    |with_reducible first|intro _|apply aiA
   all_goals try exact clz
  ·have p4:((x.sigla.length:Int)=0)=False:=eqf om;rw[ine a4]at hv;simp (disch:=omega) only[strs,qW,vaC,s2,go_sem]
   repeat' first
    |(apply qb;exact rvk;simp only[go_sem];apply qh)
    |with_reducible first|intro _|apply aiA
   all_goals try exact clz
   refine hK1 _ _ (n+1,v+1+1) ⟨hn,fun j hj=> ?_⟩ (by simp only;omega) (Wk.trans Wk.kill1 (Wk.temps ?_))
   ·by_cases e':j=n
    ·subst e';exact hv
    ·exact n2 j (by simp only at hj;omega)
   ·(simp only[strs,go_sem,qj,qd,qa,qi];try (repeat' first|(with_reducible apply aiA)|(apply qh;omega)|(apply qg;rfl)|exact qk))
 have r2:((n:Int)<e.vars.length)=False:=eqf om;rw[ine (fun hc=>hc (qz (f:=qca t e) (fun j hj=>n2 j om)))]at hR;have c28:=fun h=>qua names gs e.sup h hz hsp hgm
 obtain⟨y,hy⟩: ∃y,y=kx names gs e.sup:=⟨_,rfl⟩
 rw[←hy]at hR c28
 by_cases b1:y≠0
 ·have p1:(y=0)=False:=eqf b1;rw[ipo b1]at hR;rw[hR];unfold strs qu ql at c28;simp (disch:=omega) only[strs,qu,qW,r2,go_sem]
  repeat' first
   |(refine cA (c28 _) flk ?_;simp (disch:=omega) only[p1,go_sem])
   |(apply qb;exact rvk;simp only[go_sem];exact qk)
   |with_reducible apply aiA
  all_goals try exact clz
 have b1:y=0:=Classical.not_not.1 b1;have p1:(y=0)=True:=eqt b1;rw[ine (fun hc=>hc b1)]at hR;unfold strs qu ql at c28;simp (disch:=omega) only[strs,qu,qW,r2,go_sem]
 repeat' first
  |(refine cA (c28 _) flk ?_;simp (disch:=omega) only[p1,go_sem])
  |with_reducible apply aiA
 all_goals try exact clz
 have a0:(ke names gs e 0).1=jC names gs e.sup:=rfl;have a1:(ke names gs e 0).2=false:=rfl;refine qn (T:=fun i:Nat=>qI 186 [(0,strs names),(1,qu gs),(7,.op h.length 1 0),(14,ql (ke names gs e i).1),(16,.bool (ke names gs e i).2),(17,.int .i64 i)])
  (H:=fun i=>h++ [.mem 1 58 [.int .i64 e.layer,.int .i64 e.frm,.int .i64 e.to,.bool e.pos,strs e.sup,qW e.vars],.emp v])
  (inv:=fun i=>i≤e.vars.length∧ ∀j,j<i→kx names gs (e.vars.getD j default).sigla=0) (m:=fun i=>e.vars.length-i) 0 ⟨nzl _,fun j hj=>absurd hj (nnz j)⟩ (Wk.temps ?_) ?_
 ·rw[a0,a1]
  (simp only[strs,qu,ql,go_sem,qj,qd,qa,qi];try (repeat' first|(with_reducible apply aiA)|(apply qh;omega)|(apply qg;rfl)|exact qk))
 clear hK1;rintro m ⟨m1,m2⟩ K2 hK2;obtain⟨sa1,sa2⟩:=qfH names gs e m;have hac:=qaz names gs e m;obtain⟨A,hA⟩: ∃A,A=(ke names gs e m).1:=⟨_,rfl⟩
 obtain⟨B,hB⟩: ∃B,B=(ke names gs e m).2:=⟨_,rfl⟩
 have eA:=hA.symm;have eB:=hB.symm;rw[eA]at sa1 sa2;rw[eA,eB]at hac
 by_cases hm:m<e.vars.length
 ·have s1:((m:Int)<e.vars.length)=True:=eqt om;have hE:=qO (f:=fun i=>kx names gs (e.vars.getD i default).sigla) hm m2;have c28b:=fun h=>qua names gs (e.vars.getD m default).sigla h hz (hsg m) hgm
  have ho:=qcg names gs (e.vars.getD m default).sigla;obtain⟨x,hx⟩: ∃x,x=e.vars.getD m default:=⟨_,rfl⟩
  have ex:=hx.symm;simp only[ex]at hE c28b hac ho;obtain⟨q,hq⟩: ∃q,q=kx names gs x.sigla:=⟨_,rfl⟩
  obtain⟨O,hO⟩: ∃O,O=jC names gs x.sigla:=⟨_,rfl⟩
  rw[←hq]at hE c28b;rw[←hO]at c28b hac ho;obtain⟨ho1,ho2⟩:=ho;have c70:=fun h=>qDz A O h om om sa1 ho1
  have c71:=fun h=>qCY A O h om om sa1 ho1
  have hfp:=qlm A O;obtain⟨F,hF⟩: ∃F,F=qf1 A O A.length:=⟨_,rfl⟩
  obtain⟨U,hU⟩: ∃U,U=qT (fun k=>decide ((k:Int)∈A)||decide ((k:Int)∈O)) 64:=⟨_,rfl⟩
  rw[←hF]at c70 hfp;rw[←hU]at c71 hac;unfold strs qu ql at c28b;unfold ql at c70 c71
  by_cases b2:q≠0
  ·have p2:(q=0)=False:=eqf b2;rw[hE b2,ipo b2]at hR;rw[hR];simp (disch:=omega) only[strs,qu,qW,vaC,ql,s1,ex,eA,eB,go_sem]
   repeat' first
    |(refine cA (c28b _) flk ?_;simp (disch:=omega) only[p2,go_sem])
    |(apply qb;exact rvk;simp only[go_sem];exact qk)
    |with_reducible apply aiA
   all_goals try exact clz
  ·have b2:q=0:=Classical.not_not.1 b2;have p2:(q=0)=True:=eqt b2;have kF:((0:Int)<F.length)=(A.any (fun x=>decide (x∈O))=true):=by
    rw[←hfp];simp
   obtain⟨G,hG⟩: ∃G,G=A.any fun x=>decide (x∈O):=⟨_,rfl⟩
   rw[←hG]at kF hac;have fin: ∀B',B'=(B||G)→(ke names gs e (m+1)).1=U∧(ke names gs e (m+1)).2=B':=fun B' hb=>by rw[hac,hb];exact⟨rfl,rfl⟩
   have hi2: ∀j,j<m+1→kx names gs (e.vars.getD j default).sigla=0:=fun j hj=>by
    by_cases e':j=m
    ·subst e';rw[ex,←hq];exact b2
    ·exact m2 j om
   cases B with
   |true=>
    obtain⟨f1,f2⟩:=fin true rfl;simp (disch:=omega) only[strs,qu,qW,vaC,ql,s1,ex,eA,eB,go_sem]
    repeat' first
     |((first|refine cA (c28b _) ?_ ?_|refine cA (c70 _) ?_ ?_|refine cA (c71 _) ?_ ?_);exact flk;simp (disch:=omega) only[p2,go_sem])
     |with_reducible apply aiA
    all_goals try exact clz
    refine hK2 _ _ (m+1) ⟨hm,hi2⟩ om (Wk.temps ?_);rw[f1,f2]
    (simp only[strs,qu,ql,go_sem,qj,qd,qa,qi];try (repeat' first|(with_reducible apply aiA)|(apply qh;omega)|(apply qg;rfl)|exact qk))
   |false=>
    cases G with
    |true=>
     obtain⟨f1,f2⟩:=fin true rfl;have kF:((0:Int)<F.length)=True:=by rw[kF];simp
     simp (disch:=omega) only[strs,qu,qW,vaC,ql,s1,ex,eA,eB,go_sem]
     repeat' first
      |((first|refine cA (c28b _) ?_ ?_|refine cA (c70 _) ?_ ?_|refine cA (c71 _) ?_ ?_);exact flk;simp (disch:=omega) only[p2,kF,go_sem])
      |with_reducible apply aiA
     all_goals try exact clz
     refine hK2 _ _ (m+1) ⟨hm,hi2⟩ om (Wk.temps ?_);rw[f1,f2]
     (simp only[strs,qu,ql,go_sem,qj,qd,qa,qi];try (repeat' first|(with_reducible apply aiA)|(apply qh;omega)|(apply qg;rfl)|exact qk))
    |false=>
     obtain⟨f1,f2⟩:=fin false rfl;have kF:((0:Int)<F.length)=False:=by rw[kF];simp
     simp (disch:=omega) only[strs,qu,qW,vaC,ql,s1,ex,eA,eB,go_sem]
     repeat' first
      |((first|refine cA (c28b _) ?_ ?_|refine cA (c70 _) ?_ ?_|refine cA (c71 _) ?_ ?_);exact flk;simp (disch:=omega) only[p2,kF,go_sem])
      |with_reducible apply aiA
     all_goals try exact clz
     refine hK2 _ _ (m+1) ⟨hm,hi2⟩ om (Wk.temps ?_);rw[f1,f2]
     (simp only[strs,qu,ql,go_sem,qj,qd,qa,qi];try (repeat' first|(with_reducible apply aiA)|(apply qh;omega)|(apply qg;rfl)|exact qk))
 have s1:((m:Int)<e.vars.length)=False:=eqf om;obtain rfl:m=e.vars.length:=by omega
 rw[ine (fun hc=>hc (qz (f:=fun i=>kx names gs (e.vars.getD i default).sigla) (fun j hj=>m2 j hj)))]at hR;rw[qam,eB]at hR;cases B with
 |true=>
  rw[ipo rfl]at hR;rw[hR];simp (disch:=omega) only[strs,qu,qW,ql,s1,eB,go_sem]
  repeat' first
   |(apply qb;exact rvk;simp only[go_sem];exact qk)
   |with_reducible apply aiA
  all_goals try exact clz
 |false=>
  rw[ine (by simp)]at hR;rw[hR];simp (disch:=omega) only[strs,qu,qW,ql,s1,eB,go_sem]
  repeat' first
   |(apply qb;exact rvk;simp only[go_sem];exact qk)
   |with_reducible apply aiA
  all_goals try exact clz
def inV(names:List Str)(gs:List Gr)(e:En)(src:Int)(i:Nat):Bool:=decide (src∈jC names gs (e.vars.getD i default).sigla)
def vIx(names:List Str)(gs:List Gr)(e:En)(src:Int):Int:=j8 (inV names gs e src) e.vars.length 0
def qgW(a b:En):Bool:=decide (a.frm<b.frm)||decide (a.frm=b.frm)&&decide (a.to<b.to)
end RC
end
section
open Go Go.Proofs AF
def qlZ:List Nat:= [132,109,174,220,68]
def qBT:C:=
 ((C.ops [ON 2 (.nilo 0 6 58) []]).seq (((C.ops [MV 3 0,O1 4 (.isnil .slice false) 3]).seq (C.cond (.t 4) ((C.ops [ON 2 (.nilo 0 6 58) []]).seq C.ret) C.skip)).seq ((C.ops [⟨some
 5,none,.bslc 1 6 0 58 [i6 0,i6 0,i6 0,.bool false,.nl,.nl] [],[]⟩,MV 6 0,O2 7 (.app 2 6 58 80) 5 6,MV 2 7]).seq
 C.ret)))
theorem qzO:qB Tryz.prog 68 8 3 [RV.tmp 2] qBT:=fi Tryz.f68 [2,5,7] qlZ []
def qxh:C:=
 ((C.ops [MC 2 (.bool false)]).seq ((C.ops [MV 3 0,MV 4 0,BI 5 .neq 3 4,MV 2 5]).seq
 C.ret))
theorem qyY:qB Tryz.prog 195 6 0 [RV.tmp 2] qxh:=fi Tryz.f195 [] qlZ []
end
section
open Go Go.Proofs AF HY LN
namespace RC
def qfV(a b:Int):Int:=if a<b then-1 else if b<a then 1 else 0
theorem qDD(a:Int)(h:List AObj):ACalls Tryz.prog 195 [.int .i64 a] h (.bool false) h:=by
 have k:(a=a)=True:=eqt rfl;refine acO qyY ?_;simp (disch:=omega) only[qxh,go_sem]
 repeat' first
  |(apply qe;exact rvk;simp only[go_sem];exact qk)
theorem qEf(a b:Int)(h:List AObj):ACalls Tryz.prog 141 [.int .i64 a,.int .i64 b] h (.int .i64 (qfV a b)) h:=by
 have c1:=fun h=>qDD a h
 have c2:=fun h=>qDD b h
 unfold qfV
 by_cases g1:a<b
 ·have k1:(a<b)=True:=eqt g1;rw[ipo g1];refine acO qlF ?_;simp (disch:=omega) only[qoN,go_sem]
  repeat' first
   |((first|refine cA (c1 _) ?_ ?_|refine cA (c2 _) ?_ ?_);exact flk;simp (disch:=omega) only[k1,go_sem])
   |(apply qe;exact rvk;simp only[go_sem];exact qk)
 have k1:(a<b)=False:=eqf g1;rw[ine g1]
 by_cases g2:b<a
 ·have k2:(b<a)=True:=eqt g2;rw[ipo g2];refine acO qlF ?_;simp (disch:=omega) only[qoN,go_sem]
  repeat' first
   |((first|refine cA (c1 _) ?_ ?_|refine cA (c2 _) ?_ ?_);exact flk;simp (disch:=omega) only[k1,k2,go_sem])
   |(apply qe;exact rvk;simp only[go_sem];exact qk)
 ·have k2:(b<a)=False:=eqf g2;rw[ine g2];refine acO qlF ?_;simp (disch:=omega) only[qoN,go_sem]
  repeat' first
   |((first|refine cA (c1 _) ?_ ?_|refine cA (c2 _) ?_ ?_);exact flk;simp (disch:=omega) only[k1,k2,go_sem])
   |(apply qe;exact rvk;simp only[go_sem];exact qk)
end RC
end
section
namespace RC
variable {α : Type}
def qc4(lt:α→α→Bool)(x:α):List α→List α
 | []=> [x]
 |y::r=>if lt x y=true then y::qc4 lt x r else x::y::r
def qfs(lt:α→α→Bool):List α→List α→List α
 |acc,[]=>acc
 |acc,x::r=>qfs lt (qc4 lt x acc) r
def qwG(lt:α→α→Bool):Prop:= ∀a b c,lt a b=false→lt b c=false→lt a c=false
def Asy(lt:α→α→Bool):Prop:= ∀a b,lt a b=true→lt b a=false
def qwt(lt:α→α→Bool)(l:List α):Prop:=l.Pairwise fun a b=>lt a b=false
theorem qpT{lt:α→α→Bool}{x:α}: ∀ {l:List α} {z:α},z∈qc4 lt x l↔z=x∨z∈l:=by
 intro l
 induction l with
 |nil=>intro z;simp[qc4]
 |cons y r ih=>
  intro z;unfold qc4;split
  ·simp only[List.mem_cons,ih];constructor
   ·rintro (h|h|h)
    ·exact .inr (.inl h)
    ·exact .inl h
    ·exact .inr (.inr h)
   ·rintro (h|h|h)
    ·exact .inr (.inl h)
    ·exact .inl h
    ·exact .inr (.inr h)
  ·simp
theorem qcK{lt:α→α→Bool}(hn:qwG lt)(ha:Asy lt){x:α}: ∀ {l:List α},qwt lt l→qwt lt (qc4 lt x l):=by
 intro l
 induction l with
 |nil=>intro _;exact List.pairwise_singleton _ _
 |cons y r ih=>
  intro h;obtain⟨h1,h2⟩:=List.pairwise_cons.1 h;unfold qc4
  by_cases g:lt x y=true
  ·rw[ipo g];refine List.pairwise_cons.2 ⟨fun z hz=> ?_,ih h2⟩;rcases qpT.1 hz with rfl|hz
   ·exact ha _ _ g
   ·exact h1 z hz
  ·rw[ine g];have g:lt x y=false:=by simpa using g
   refine List.pairwise_cons.2 ⟨fun z hz=> ?_,h⟩;rcases List.mem_cons.1 hz with rfl|hz
   ·exact g
   ·exact hn _ _ _ g (h1 z hz)
theorem ql2{lt:α→α→Bool}{x:α}{l:List α}(h: ∀z∈l,lt x z=false):qc4 lt x l=x::l:=by
 cases l with
 |nil=>rfl
 |cons y r=>
  unfold qc4;rw[ine (by rw[h y (by simp)];simp)]
theorem qf3{lt:α→α→Bool}(hn:qwG lt)(p:α→Bool)(x:α): ∀ {l:List α},qwt lt l→(qc4 lt x l).filter p=if p x=true then qc4 lt x (l.filter p) else l.filter p:=by
 intro l
 induction l with
 |nil=>intro _;unfold qc4;by_cases h:p x=true<;>simp[h,qc4]
 |cons y r ih=>
  intro h;obtain⟨h1,h2⟩:=List.pairwise_cons.1 h
  by_cases g:lt x y=true
  ·have e:qc4 lt x (y::r)=y::qc4 lt x r:=by rw[qc4,ipo g]
   rw[e,List.filter_cons,List.filter_cons,ih h2]
   by_cases hy:p y=true
   ·rw[ipo hy,ipo hy]
    by_cases hx:p x=true
    ·rw[ipo hx,ipo hx,qc4,ipo g]
    ·rw[ine hx,ine hx]
   ·rw[ine hy,ine hy]
  ·have e:qc4 lt x (y::r)=x::y::r:=by rw[qc4,ine g]
   have g:lt x y=false:=by simpa using g
   rw[e]
   by_cases hx:p x=true
   ·rw[ipo hx,List.filter_cons,ipo hx,ql2];intro z hz;rcases List.mem_cons.1 (List.mem_filter.1 hz).1 with rfl|hz
    ·exact g
    ·exact hn _ _ _ g (h1 z hz)
   ·rw[ine hx,List.filter_cons,ine hx]
theorem qeS{lt:α→α→Bool}(hn:qwG lt)(ha:Asy lt)(p:α→Bool): ∀(l acc:List α),qwt lt acc→(qfs lt acc l).filter p=qfs lt (acc.filter p) (l.filter p):=by
 intro l
 induction l with
 |nil=>intro acc _;rfl
 |cons x r ih=>
  intro acc h;rw[qfs,ih _ (qcK hn ha h),qf3 hn p x h,List.filter_cons]
  by_cases hx:p x=true
  ·rw[ipo hx,ipo hx,qfs]
  ·rw[ine hx,ine hx]
theorem qft{lt:α→α→Bool}(hn:qwG lt)(ha:Asy lt): ∀(l acc:List α),qwt lt acc→qwt lt (qfs lt acc l):=by
 intro l
 induction l with
 |nil=>intro acc h;exact h
 |cons x r ih=>intro acc h;exact ih _ (qcK hn ha h)
end RC
end
section
namespace RC
variable {α : Type}
end RC
end
section
open Go Go.Proofs AF HY LN
namespace RC
theorem qa2{a b:En}:qgW a b=true↔a.frm<b.frm∨a.frm=b.frm∧a.to<b.to:=by
 unfold qgW;simp[Bool.or_eq_true,Bool.and_eq_true]
theorem qbp{a b:En}:qgW a b=false↔b.frm<a.frm∨a.frm=b.frm∧b.to≤a.to:=by
 have:= @qa2 a b
 cases h:qgW a b with
 |true=>rw[h]at this;simp only[true_iff]at this;simp only[Bool.true_eq_false,false_iff];omega
 |false=>rw[h]at this;simp only[Bool.false_eq_true,false_iff]at this;simp only[true_iff];omega
theorem qgY:qwG qgW:=by
 intro a b c h1 h2;rw[qbp]at*;omega
theorem qgX:Asy qgW:=by
 intro a b h;rw[qa2]at h;rw[qbp];omega
def qwE(l:List En):List En:=(qfs qgW [] l).reverse
def qEw(names:List Str)(gs:List Gr)(src:Int)(e:En):Bool:=decide (0≤vIx names gs e src)
def ofE(names:List Str)(gs:List Gr)(l:List En)(src:Int):List En:=(qwE l).filter (qEw names gs src)
theorem ql3{α:Type}{lt:α→α→Bool}{x:α}: ∀l:List α,(qc4 lt x l).Perm (x::l):=by
 intro l
 induction l with
 |nil=>exact List.Perm.refl _
 |cons y r ih=>
  unfold qc4;split
  ·exact (List.Perm.cons y ih).trans (List.Perm.swap x y r)
  ·exact List.Perm.refl _
theorem qi0{α:Type}{lt:α→α→Bool}: ∀l acc:List α,(qfs lt acc l).Perm (acc++l):=by
 intro l
 induction l with
 |nil=>intro acc;rw[lan];exact List.Perm.refl _
 |cons x r ih=>
  intro acc;refine (ih _).trans ((List.Perm.append_right r (ql3 acc)).trans ?_);exact (List.perm_middle (a:=x) (l₁:=acc) (l₂:=r)).symm
theorem qfv(l:List En):(qwE l).Perm l:=(List.reverse_perm _).trans (by simpa using qi0 (lt:=qgW) l [])
theorem qgx(l:List En):(qwE l).Pairwise fun a b=>qgW b a=false:=by
 unfold qwE;rw[List.pairwise_reverse];exact qft qgY qgX l [] List.Pairwise.nil
def qcD(a b:En):Bool:=decide (b.frm<a.to)||decide (a.frm=b.frm)&&decide (a.to=b.to)
def qar:List En→Bool
 |a::b::r=>qcD a b||qar (b::r)
 |_=>false
theorem qk2(L:List En):qar L=true↔ ∃i,i+1<L.length∧qcD (L.getD i default) (L.getD (i+1) default)=true:=by
 induction L with
 |nil=>simp[qar]
 |cons a L ih=>
  cases L with
  |nil=>simp[qar]
  |cons b r=>
   rw[qar,Bool.or_eq_true,ih];constructor
   ·rintro (h|⟨i,h1,h2⟩)
    ·exact⟨0,by simp,h⟩
    ·exact⟨i+1,by simpa using h1,h2⟩
   ·rintro⟨i,h1,h2⟩;cases i with
    |zero=>exact .inl h2
    |succ i=>exact .inr ⟨i,by simpa using h1,h2⟩
def qgU(names:List Str)(gs:List Gr)(l:List En):Bool:=zd (fun s=>qar (ofE names gs l (s:Int))) names.length
def jh(L:List En):List AV:=L.flatMap enC
theorem qcF(e:En):(enC e).length=6:=rfl
theorem jN(L:List En):(jh L).length=L.length*6:=by
 unfold jh
 induction L with
 |nil=>rfl
 |cons a L ih=>rw[List.flatMap_cons,lap,ih,lco,qcF];omega
theorem qce(A B:List En):jh (A++B)=jh A++jh B:=by simp[jh]
theorem qdP(a:En):jh [a]=enC a:=by simp[jh]
theorem qeR(L:List En): ∀i,(jh L).take (i*6)=jh (L.take i):=by
 induction L with
 |nil=>intro i;simp[jh]
 |cons a L ih=>
  intro i;cases i with
  |zero=>simp[jh]
  |succ i=>
   have e:jh (a::L)=enC a++jh L:=rfl;rw[List.take_succ_cons,e,List.take_append,qcF,show (i+1)*6-6=i*6 by omega,ih];rw[ltl (by rw[qcF];omega)];rfl
theorem qeQ(L:List En): ∀i,(jh L).drop (i*6)=jh (L.drop i):=by
 induction L with
 |nil=>intro i;simp[jh]
 |cons a L ih=>
  intro i;cases i with
  |zero=>simp
  |succ i=>
   have e:jh (a::L)=enC a++jh L:=rfl;rw[List.drop_succ_cons,e,List.drop_append,qcF,show (i+1)*6-6=i*6 by omega,ih];rw[List.drop_eq_nil_of_le (by rw[qcF];omega)];rfl
theorem qa6{L:List En}{i:Nat}(hi:i<L.length):((jh L).drop (i*6)).take 6=enC (L.getD i default):=by
 rw[qeQ,List.drop_eq_getElem_cons hi,gdqA,zp hi];rfl
theorem qpk{L:List En}{i:Nat}(e:En)(hi:i<L.length):(jh L).take (i*6)++enC e++(jh L).drop (i*6+6)=jh (L.set i e):=by
 rw[List.set_eq_take_append_cons_drop,ipo hi,show i*6+6=(i+1)*6 by omega,qeR,qeQ,qce];rw[show e::List.drop (i+1) L= [e]++List.drop (i+1) L from rfl,qce,qdP,List.append_assoc]
theorem qpC(L:List En):((List.range L.length).flatMap fun i=>enC (L.getD i default))=jh L:=by
 unfold jh;have e:L=(List.range L.length).map fun i=>L.getD i default:=by
  apply List.ext_getElem (by simp);intro i h1 h2;simp[gdqA,h1]
 conv=>rhs;rw[e]
 rw[List.flatMap_map]
theorem qnz(h:List AObj)(L:List En):qt h (zg L)=some (L.length,jh L):=by
 show some (L.length,_)=_;rw[qpC]
theorem qg4(L:List En)(n:Nat): ∀c∈jh L,lowV n c=true:=by
 intro c hc;unfold jh at hc;obtain⟨x,_,hx⟩:=List.mem_flatMap.1 hc;unfold enC at hx;simp only[List.mem_cons,List.not_mem_nil,or_false]at hx;rcases hx with rfl|rfl|rfl|rfl|rfl|rfl<;>rfl
theorem qdj{a:En}{r:List En}(h:qar (a::r)=false):qar r=false:=by
 cases r with
 |nil=>rfl
 |cons b r=>rw[qar,Bool.or_eq_false_iff]at h;exact h.2
theorem qnF{L:List En}(hs:L.Pairwise fun a b=>qgW b a=false)(hc:qar L=false):L.Pairwise fun a b=>qgW a b=true:=by
 induction L with
 |nil=>exact List.Pairwise.nil
 |cons a r ih=>
  obtain⟨h1,h2⟩:=List.pairwise_cons.1 hs;have h3:=ih h2 (qdj hc);refine List.pairwise_cons.2 ⟨?_,h3⟩;cases r with
  |nil=>intro z hz;cases hz
  |cons b r=>
   have hab:qgW a b=true:=by
    rw[qar,Bool.or_eq_false_iff]at hc;have h5:=hc.1;unfold qcD at h5;rw[Bool.or_eq_false_iff,Bool.and_eq_false_imp,decide_eq_false_iff_not,decide_eq_true_iff,decide_eq_false_iff_not]at h5;have h4:=h1 b (by simp);rw[qbp]at h4;rw[qa2];obtain⟨h5,h6⟩:=h5
    by_cases e:a.frm=b.frm
    ·have:=h6 e;omega
    ·omega
   intro z hz;rcases List.mem_cons.1 hz with rfl|hz
   ·exact hab
   ·have h6:=(List.pairwise_cons.1 h3).1 z hz;rw[qa2]at*;omega
theorem qo3{L:List En}(hc:qar L=false){i:Nat}(hi:i+1<L.length):(L.getD i default).to≤(L.getD (i+1) default).frm:=by
 cases h:qcD (L.getD i default) (L.getD (i+1) default)with
 |true=>rw[(qk2 L).2 ⟨i,hi,h⟩]at hc;cases hc
 |false=>
  unfold qcD at h;rw[Bool.or_eq_false_iff,decide_eq_false_iff_not]at h;omega
theorem qiC(names:List Str)(gs:List Gr)(l:List En)(src:Int):(ofE names gs l src).Pairwise fun a b=>qgW b a=false:=List.Pairwise.filter _ (qgx l)
theorem qaJ{names:List Str}{gs:List Gr}{l:List En}(h:qgU names gs l=false){s:Nat}(hs:s<names.length):qar (ofE names gs l (s:Int))=false:=
 qo.1 h s hs
structure qwr (names:List Str) (gs:List Gr) (t:List Str) (l:List En):Prop where
 sg:sgE names gs=0
 n:l.length≤4096
 ck: ∀e∈l,qol names gs t e=0
 cl:qgU names gs l=false
structure qBH (names:List Str) (gs:List Gr) (t:List Str) (e:En):Prop where
 sg:sgE names gs=0
 tn:t.length≤4096
 tw:kp t=0
 lay:0≤e.layer∧e.layer<16
 rng:0≤e.frm∧e.frm≤e.to∧e.to≤t.length
 sp:0<e.sup.length→e.pos=true
 ne:e.vars.length≠0
 va: ∀i,i<e.vars.length→qca t e i=0
 es:kx names gs e.sup=0
 ev: ∀i,i<e.vars.length→kx names gs (e.vars.getD i default).sigla=0
 tc:(ke names gs e e.vars.length).2=false
theorem qk1{names:List Str}{gs:List Gr}{t:List Str}{e:En}:qol names gs t e=0↔qBH names gs t e:=by
 unfold qol;constructor
 ·intro h;split at h
  ·cases h
  rename_i h1;split at h
  ·cases h
  rename_i h2;split at h
  ·cases h
  rename_i h3;split at h
  ·cases h
  rename_i h4;split at h
  ·cases h
  rename_i h5;split at h
  ·cases h
  rename_i h6;split at h
  ·rename_i h7;exact absurd h h7
  rename_i h7;split at h
  ·rename_i h8;exact absurd h h8
  rename_i h8;split at h
  ·rename_i h9;exact absurd h h9
  rename_i h9;split at h
  ·cases h
  rename_i h10;unfold qjC at h4;refine⟨Classical.not_not.1 h1,om,Classical.not_not.1 h3,om,om,fun h=> ?_,h6,jS.1 (Classical.not_not.1 h7),Classical.not_not.1 h8,jS.1 (Classical.not_not.1 h9),?_⟩
  ·cases hp:e.pos with
   |true=>rfl
   |false=>exact absurd ⟨h,hp⟩ h5
  ·rw[qam]at h10;simpa using h10
 ·rintro⟨h1,h2,h3,h4,h5,h6,h7,h8,h9,h10,h11⟩;have hr: ¬qjC t e:=by unfold qjC;omega
  rw[ine (fun hc=>hc h1),ine om,ine (fun hc=>hc h3),ine hr,ine (by rintro⟨a,b⟩;rw[h6 a]at b;cases b),ine h7,ine (fun hc=>hc (qz (f:=qca t e) h8)),ine (fun hc=>hc h9),
   ine (fun hc=>hc (qz (f:=fun i=>kx names gs (e.vars.getD i default).sigla) h10)),ine (by rw[qam,h11];simp)]
theorem qsN(names:List Str)(gs:List Gr)(e:En): ∀i,(ke names gs e i).2=false→ ∀x:Int,(x∈(ke names gs e i).1↔x∈jC names gs e.sup∨ ∃j,j<i∧x∈jC names gs (e.vars.getD j default).sigla):=by
 intro i
 induction i with
 |zero=>intro _ x;simp[ke]
 |succ i ih=>
  intro h x;rw[qaz]at h ⊢;simp only[Bool.or_eq_false_iff]at h;have hi:=ih h.1 x;have hb1:x∈(ke names gs e i).1→0≤x∧x<64:=fun hx=>jl (qac (qfH names gs e i).1).1 x hx
  have hb2:x∈jC names gs (e.vars.getD i default).sigla→0≤x∧x<64:=fun hx=>jl (qac (qcg names gs _).1).1 x hx
  have hm:x∈qT (fun k=>decide ((k:Int)∈(ke names gs e i).1)||decide ((k:Int)∈jC names gs (e.vars.getD i default).sigla)) 64↔x∈(ke names gs e i).1∨x∈jC names gs (e.vars.getD i default).sigla:=by
   unfold qT;rw[List.mem_map];constructor
   ·rintro⟨k,hk,rfl⟩
    have:=(List.mem_filter.1 hk).2
    simpa[Bool.or_eq_true] using this
   ·intro hx;have hb:0≤x∧x<64:=hx.elim hb1 hb2;refine⟨x.toNat,List.mem_filter.2 ⟨List.mem_range.2 om,?_⟩,by simp;omega⟩;rw[show ((x.toNat:Nat):Int)=x by omega];simpa[Bool.or_eq_true] using hx
  simp only[hm,hi];constructor
  ·rintro ((h|⟨j,hj,hx⟩)|hx)
   ·exact .inl h
   ·exact .inr ⟨j,om,hx⟩
   ·exact .inr ⟨i,om,hx⟩
  ·rintro (h|⟨j,hj,hx⟩)
   ·exact .inl (.inl h)
   ·by_cases e':j=i
    ·subst e';exact .inr hx
    ·exact .inl (.inr ⟨j,om,hx⟩)
section
variable {k v w : Nat} {h : List AObj} {o o' : AObj} {ty : TypeId} {cs : List AV}
end
theorem low_setO{k v:Nat}{h:List AObj}{ty:TypeId}{cs:List AV}(hl: ∀n,∀c∈cs,lowV n c=true): ∀o∈setO k h (.mem v ty cs),o∈h∨lowO h.length o:=by
 intro o ho;rcases qd1 ho with h1|rfl
 ·exact .inl h1
 ·exact .inr (fun c hc=>hl _ c hc)
end RC
end
section
open Go Go.Proofs AF HY LN
namespace AF
theorem Wk.cells{t:List AV}{h:List AObj}{j v:Nat}{ty:TypeId}{cs cs':List AV}(hj:qA j h=some (.mem v ty cs))(hc:qaX cs cs'):Wk t h t (setO j h (.mem v ty cs')):=by
 intro N w σ a H;have hjl:j<σ.length:=by rw[H.hr.len];exact jd hj
 have ho:=zp hjl;obtain⟨m1,m2,b,arr,m3,m4,m5,m6,m7,m8⟩:=H.hr.obj j _ _ hj ho;have q:=H.hr.recell (cs':=cs') hj ho m3 m4 m5 (by rw[hc.length];exact m6) (fun i x hi hx=>m7 i x (by rw[←hc.length];exact hi) hx) (fun i c x hi hx=>by
  obtain⟨c0,h1,h2⟩:=hc.get i c hi
  exact h2 _ _ _ (m8 i c0 x h1 hx))
 exact⟨σ,⟨q,H.sz,H.tm,H.df⟩,Ext.refl _ _⟩
end AF
namespace RC
theorem ql5{L:List En}(h:L≠ []):valP (.isnil .slice false) [zg L]= .bool false:=by
 unfold zg;rw[qbk,ine (by simpa using h)];rfl
theorem qEc(h:List AObj):ACalls Tryz.prog 68 [zg []] h (zg []) h:=by
 have s1:=fun h=>qnz h []
 have z0:valP (.isnil .slice false) [zg []]= .anyb:=rfl;have z1:okP (.isnil .slice false) [zg []]=True:=eqt trivial;have e0:jh []= []:=rfl;refine acO qzO ?_;simp (disch:=omega) only[qBT,s1,z0,z1,e0,go_sem]
 repeat' first
  |(apply qb;exact rvk;simp only[go_sem])
  |with_reducible apply aiA
 all_goals try exact clz
 ·exact jf
 ·rfl
 ·exact VLe.sl_eq rfl (fun i hi=>absurd hi (by simp))
theorem qEb(L:List En)(h:List AObj)(k:Nat)(hk:qC h k=true)(h0:L≠ [])(hl:L.length≤1000000):
  ACalls Tryz.prog 68 [zg L] h (.osl k (qr (qA k h)+1) 6 0 L.length) (setO k h (.mem (qr (qA k h)+1) 58 (jh L))):=by
 have s1:=fun h=>qnz h L
 have eP:=jN L;have hp:=List.length_pos_iff.2 h0;have z0:=ql5 h0;have z1:okP (.isnil .slice false) [zg L]=True:=eqt trivial;refine qsM qzO k (by simp) ?_;simp only[lco,lnl,Nat.reduceAdd,Nat.reduceSub,List.replicate,lca,lna];simp (disch:=omega) only[qBT,s1,z0,z1,go_sem]
 repeat' first
  |(with_reducible apply aiA)
 all_goals first
  |omega
  |contradiction
  |skip
 ·rfl
 exact⟨h.length+1,2,6,0,L.length,58,jh L,_,⟨trivial,trivial⟩,rfl,rfl,om,by simp only[go_sem],qg4 L _,hk,rfl,rfl⟩
end RC
end
section
open Go Go.Proofs AF HY LN
namespace RC
def stV(names:List Str)(gs:List Gr)(e:En):AV:= .sl e.vars.length fun j=> [ql (jC names gs (e.vars.getD j default).sigla)]
def msV(names:List Str)(gs:List Gr)(L:List En):AV:= .sl L.length fun i=> [stV names gs (L.getD i default)]
theorem qpx(names:List Str)(gs:List Gr)(e:En):(stV names gs e).flag=true:=rfl
theorem qnL(names:List Str)(gs:List Gr)(e:En):(stV names gs e).strip=stV names gs e:=rfl
theorem qpv(names:List Str)(gs:List Gr)(L:List En):(msV names gs L).flag=true:=rfl
theorem qnJ(names:List Str)(gs:List Gr)(L:List En):(msV names gs L).strip=msV names gs L:=rfl
theorem qup{fz:Nat→Bool}{h:List AObj}{n:Nat}(names:List Str)(gs:List Gr)(e:En):frz fz h (n+1) (stV names gs e)=stV names gs e:=rfl
theorem qve{fz:Nat→Bool}{h:List AObj}{n:Nat}(names:List Str)(gs:List Gr)(e:En):rei fz h (n+1) (stV names gs e)=stV names gs e:=rfl
theorem qun{fz:Nat→Bool}{h:List AObj}{n:Nat}(names:List Str)(gs:List Gr)(L:List En):frz fz h (n+1) (msV names gs L)=msV names gs L:=rfl
theorem qvd{fz:Nat→Bool}{h:List AObj}{n:Nat}(names:List Str)(gs:List Gr)(L:List En):rei fz h (n+1) (msV names gs L)=msV names gs L:=rfl
attribute [go_sem] qpx qnL qpv qnJ qup qve qun qvd
end RC
end
section
open Go Go.Proofs AF HY LN
namespace AF
theorem qaT{P:Program}{f:FuncId}{cap:List AV}{xs:List (List AV)}(hf:qwq P f cap xs){ps:List Nat}{b:Nat}{x y:C}{Q:Ex→Nx}{ts:List AV}{h:List AObj}(hps: ∀a∈xs,a.length=ps.length)
  (S:Nat→List AObj→Prop) (E:Ex→List AObj→Prop) (hS: ∀i hh,S i hh→LowI h hh) (hE: ∀s hh,E s hh→LowI h hh)
  (start:S 0 h) (hts: ∀c∈ts,lowV (h.length+1) c=true)
  (body: ∀i hh tl L TS,(hi:i<xs.length)→S i hh→hh.length=h.length→ ∀(K:Nx) (K2:Ex→Nx),
   (∀t2 X hm,X=hm++ .lp .ready TS L::tl→hm.length=h.length→qY P b y K2 t2 (hm++ .lp .busy TS L::tl)→K t2 X)→
   (∀t3 X hh',X=hh'++ .lp .busy TS L::tl→hh'.length=h.length→S (i+1) hh'→K2 .normal t3 X)→
   (∀t3 X hh',X=hh'++ .lp .busy TS L::tl→hh'.length=h.length→E .ret hh'→K2 .ret t3 X)→
   (∀id t3 X hh',X=hh'++ .lp .busy TS L::tl→hh'.length=h.length→E (.exit id) hh'→K2 (.exit id) t3 X)→
   qY P b x (Ex.andThen K (fun _ _ _=>False)) (qb8 ts ps (xs[i])) (hh++ .lp .ready TS L::tl))
  (done: ∀hh,S xs.length hh→Q .normal ts hh) (doneE: ∀e hh,E e hh→match e with
   | .normal=>False
   |e=>Q e ts hh):
  qfg P (.fn (.func f) [] cap) ps (qY P b x) (qY P b y) Q ts h:=by
 intro L hy;show jD _ _ _ _ _;have key:=hf h ts L S (fun s hh=>match s with
  | .ret=>E .ret hh
  | .exit id=>E (.exit id) hh
  |_=>False) hS
  (by
   intro s hh hs;cases s with
   |ret=>exact hE _ _ hs
   |exit id=>exact hE _ _ hs
   |ready=>exact hs.elim
   |busy=>exact hs.elim)
  (by
   intro i hh tl hi i4;have hlen:=(hS _ _ i4).1;refine hy h.length ts _ _ _ (kz hlen) (hps _ (List.getElem_mem hi)) ?_;refine qaA (Q:=Ex.andThen (fun t2 h2=> ∃hm,hm.length=h.length∧h2=hm++ .lp .ready ts L::tl∧
    qY P b y (fun e t3 h3=> ∃hh',h3=hh'++ .lp .busy ts L::tl∧hh'.length=h.length∧match e with
     | .normal=>S (i+1) hh'
     | .ret=>E .ret hh'
     | .exit id=>E (.exit id) hh') t2 (hm++ .lp .busy ts L::tl)) (fun _ _ _=>False)) ?_
    (body i hh tl L ts hi i4 hlen _ _ (fun t2 X hm e1 e2 e3=>⟨hm,e2,e1,e3⟩) (fun t3 X hh' e1 e2 e3=>⟨hh',e1,e2,e3⟩) (fun t3 X hh' e1 e2 e3=>⟨hh',e1,e2,e3⟩) (fun id t3 X hh' e1 e2 e3=>⟨hh',e1,e2,e3⟩))
   intro e t2 h2 hq;cases e with
   |ret=>exact hq.elim
   |exit id=>exact hq.elim
   |normal=>
    obtain⟨hm,hml,rfl,h3⟩:=hq;refine⟨rfl,⟨ts,kz hml⟩,fun ts' hts'=> ?_⟩;rw[kz hml]at hts';cases hts';rw[qb0 hml];refine qaA ?_ h3;rintro e t3 h3' ⟨hh',rfl,g1,g2⟩;refine⟨ts,kz g1,?_⟩;cases e with
    |normal=>exact⟨hh',.inl ⟨rfl,g2,qb0 g1⟩⟩
    |ret=>exact⟨hh',.inr ⟨.ret,rfl,g2,qb0 g1⟩⟩
    |exit id=>exact⟨hh',.inr ⟨.exit id,rfl,g2,qb0 g1⟩⟩)
  start hts
 refine key.le (qaX.refl _) ?_;rintro v h' ⟨hh,⟨g1,rfl⟩|⟨s,g1,rfl⟩⟩
 ·have hl:=hS _ _ g1;exact⟨v,qk,hh,.ready,ts,L,rfl,hl.1,fun o ho=>(hl.2 o ho).imp (fun h=>h) And.left,done hh g1⟩
 ·cases s with
  |ready=>exact g1.elim
  |busy=>exact g1.elim
  |ret=>
   have hl:=hE _ _ g1;exact⟨v,qk,hh,.ret,ts,L,rfl,hl.1,fun o ho=>(hl.2 o ho).imp (fun h=>h) And.left,doneE _ _ g1⟩
  |exit id=>
   have hl:=hE _ _ g1;exact⟨v,qk,hh,.exit id,ts,L,rfl,hl.1,fun o ho=>(hl.2 o ho).imp (fun h=>h) And.left,doneE _ _ g1⟩
end AF
namespace RC
theorem qdZ(n:Nat)(L:List Str):lowV n (strs L)=true:=rfl
end RC
end
section
open Go Go.Proofs AF HY LN
namespace AF
theorem Wk.ownNil{t:List AV}{h:List AObj}{j v i k ve sz:Nat}{ty:TypeId}{cs:List AV}(hj:qA j h=some (.mem v ty cs))(hi:cs[i]? =some .nl)(hk:qA k h=some (.emp ve)):
  Wk t h t (setO j h (.mem v ty (cs.set i (.osl k ve sz 0 0)))):=by
 intro N w σ a H;have hjl:j<σ.length:=by rw[H.hr.len];exact jd hj
 have hkl:k<σ.length:=by rw[H.hr.len];exact jd hk
 have ho:=zp hjl;have hok:=zp hkl;obtain⟨e1,e2⟩:=H.hr.obj k _ _ hk hok;obtain⟨m1,m2,b,arr,m3,m4,m5,m6,m7,m8⟩:=H.hr.obj j _ _ hj ho;have q:=H.hr.recell (cs':=cs.set i (.osl k ve sz 0 0)) hj ho m3 m4 m5 (by simpa using m6) (fun n x hn hx=>m7 n x (by simpa using hn) hx) (fun n c x hn hx=>by
  rw[List.getElem?_set]at hn;split at hn
  ·rename_i e;subst e;split at hn
   ·cases hn;have hv:=m8 i _ x hi hx;cases hv with
    |imm hv=>
     cases hv;exact .osl _ hok ⟨none,0,0,rfl⟩ (Nat.le_of_eq e1.symm) (fun _=> .inl ⟨e2,rfl,rfl,rfl⟩)
   ·cases hn
  ·exact m8 n c x hn hx)
 exact⟨σ,⟨q,H.sz,H.tm,H.df⟩,Ext.refl _ _⟩
end AF
namespace RC
structure qDQ (t:List Str) (L:List En):Prop where
 rg: ∀i,i<L.length→0≤(L.getD i default).frm∧(L.getD i default).frm≤(L.getD i default).to∧(L.getD i default).to≤t.length
 nx: ∀i,i+1<L.length→(L.getD i default).to≤(L.getD (i+1) default).frm
theorem quL{names:List Str}{gs:List Gr}{l:List En}{src:Int}{e:En}(h:e∈ofE names gs l src):e∈l:=(qfv l).subset (List.mem_filter.1 h).1
theorem qlS{L:List En}{i:Nat}(hi:i<L.length):L.getD i default∈L:=by
 rw[gdqA,zp hi];exact List.getElem_mem hi
theorem qwr.tx{names:List Str}{gs:List Gr}{t:List Str}{l:List En}(h:qwr names gs t l){s:Nat}(hs:s<names.length):qDQ t (ofE names gs l (s:Int)):=
 ⟨fun i hi=>(qk1.1 (h.ck _ (quL (qlS hi)))).rng,fun i hi=>qo3 (qaJ h.cl hs) hi⟩
end RC
end
section
open Go Go.Proofs AF HY LN
namespace RC
def qvA(L:List (List Str)):AV:= .sl L.length fun i=> [strs (L.getD i [])]
theorem qin(L:List (List Str)):(qvA L).flag=true:=rfl
theorem qgC(L:List (List Str)):(qvA L).strip=qvA L:=rfl
attribute [go_sem] qin qgC
theorem jb(L:List Str):(zY L).length=L.length:=by simp[zY]
theorem qaF(L M:List Str):zY (L++M)=zY L++zY M:=by simp[zY]
theorem qq7{L:List Str}:zY L= []↔L= []:=by simp[zY]
theorem qel{L:List Str}{n:Nat}(g:AV→AV)(hg: ∀s,g (.str s)= .str s)(hn:n=L.length):VLe (.sl n fun i=>(((zY L).drop i).take 1).map g) (strs L):=by
 subst hn;refine VLe.sl_eq rfl (fun i hi=> ?_);unfold zY;rw[←List.map_drop,List.drop_eq_getElem_cons hi,List.map_cons,List.take_succ_cons,List.take_zero,List.map_cons,List.map_nil,hg,gdqA,zp hi];rfl
theorem qpE{α β:Type}(f:α→β)(L:List α):L.flatMap (fun i=> [f i])=L.map f:=by
 induction L with
 |nil=>rfl
 |cons a L ih=>rw[List.flatMap_cons,ih];rfl
theorem qnA(h:List AObj){t:List Str}{a b:Nat}(h1:a≤b)(h2:b≤t.length):qt h (.sl (b-a) fun i=> [.str (t.getD (a+i) [])])=some (b-a,zY (qaQ t a b)):=by
 show some (b-a,(List.range (b-a)).flatMap fun i=> [AV.str (t.getD (a+i) [])])=_;rw[qpE (fun i=>AV.str (t.getD (a+i) []))];congr 2;unfold zY qaQ;apply List.ext_getElem
 ·simp;omega
 ·intro i g1 g2;have hi:i<b-a:=by simpa using g1
  have hl:a+i<t.length:=by omega
  simp[gdqA,hl]
theorem qq5(h:List AObj)(t:List Str):qt h (strs t)=some (t.length,zY t):=by
 have:=qnA h (t:=t) (a:=0) (b:=t.length) (nzl _) (nlr _)
 simp only[Nat.sub_zero,Nat.zero_add]at this;have e:qaQ t 0 t.length=t:=by simp[qaQ]
 rw[e]at this;exact this
def gwB(ws:List Str)(n:Nat):Bool:=zd (fun i=>decide (20<(ws.getD i []).length)) ws.length||decide (n<ws.length)
theorem qa1{p:Nat→Bool}{i:Nat}(h: ∀j,j<i→p j=false)(hp:p i=false): ∀j,j<i+1→p j=false:=by
 intro j hj
 by_cases e:j=i
 ·subst e;exact hp
 ·exact h j om
theorem gwP(ws:List Str)(n:Nat)(h:List AObj)(hn:ws.length≤9223372036854775807):ACalls Tryz.prog 70 [strs ws,.int .i64 n] h (.bool (gwB ws n)) h:=by
 obtain⟨R,hR⟩: ∃R,R=gwB ws n:=⟨_,rfl⟩
 rw[←hR];unfold gwB at hR;refine acO qCm ?_;simp (disch:=omega) only[qDp,strs,go_sem];refine qn (T:=fun i:Nat=>qI 22 [(0,strs ws),(1,.int .i64 n),(5,.int .i64 i)]) (H:=fun _=>h) (inv:=fun i=>i≤ws.length∧ ∀j,j<i→(fun i=>decide (20<(ws.getD i []).length)) j=false) (m:=fun i=>ws.length-i) 0 ⟨nzl _,fun j hj=>by omega⟩ (Wk.temps ?_) ?_
 ·(simp only[strs,go_sem,qj,qd,qa,qi];try (repeat' first|(with_reducible apply aiA)|(apply qh;omega)|(apply qg;rfl)|exact qk))
 rintro i ⟨i1,i2⟩ K hK
 by_cases hi:i<ws.length
 ·have k1:((i:Int)<ws.length)=True:=eqt om
  by_cases g:20<(ws.getD i []).length
  ·have hV:R=true:=by rw[hR,qG.2 ⟨i,hi,dqt g⟩];rfl
   obtain⟨s,hs⟩: ∃s,s=ws.getD i []:=⟨_,rfl⟩
   have es:=hs.symm;rw[es]at g;have k2:((20:Int)<s.length)=True:=eqt om;rw[hV];simp (disch:=omega) only[strs,k1,k2,es,go_sem]
   repeat' first
    |(apply qe;exact rvk;simp only[go_sem];exact qk)
    |with_reducible apply aiA
   all_goals try exact clz
  ·have i3:=qa1 i2 (dqf g);obtain⟨s,hs⟩: ∃s,s=ws.getD i []:=⟨_,rfl⟩
   have es:=hs.symm;rw[es]at g;have k2:((20:Int)<s.length)=False:=eqf om;simp (disch:=omega) only[strs,k1,k2,es,go_sem]
   repeat' first
    |with_reducible apply aiA
   all_goals try exact clz
   refine hK _ _ (i+1) ⟨hi,i3⟩ om (Wk.temps ?_)
   (simp only[strs,go_sem,qj,qd,qa,qi];try (repeat' first|(with_reducible apply aiA)|(apply qh;omega)|(apply qg;rfl)|exact qk))
 ·have k1:((i:Int)<ws.length)=False:=eqf om;rw[qo.2 (fun j hj=>i2 j om),Bool.false_or]at hR;have e:decide ((n:Int)<ws.length)=R:=by rw[hR];exact decide_eq_decide.2 om
  simp (disch:=omega) only[strs,k1,go_sem]
  repeat' first
   |(apply qe;exact rvk;simp only[go_sem];apply qg)
  all_goals try exact clz
structure EnB (e:En):Prop where
 v:e.vars.length≤9223372036854775807
 s:e.sup.length≤9223372036854775807
 w: ∀i,(e.vars.getD i default).words.length≤9223372036854775807
 g: ∀i,(e.vars.getD i default).sigla.length≤9223372036854775807
def geB(e:En):Bool:=(decide (6<e.vars.length)||gwB e.sup 8)||zd (fun i=>gwB (e.vars.getD i default).words 8||gwB (e.vars.getD i default).sigla 8) e.vars.length
theorem geP(e:En)(h:List AObj)(hb:EnB e):ACalls Tryz.prog 143 [.agg (enC e)] h (.bool (geB e)) h:=by
 have cs:=fun h=>gwP e.sup 8 h hb.s
 have cw:=fun i h=>gwP (e.vars.getD i default).words 8 h (hb.w i)
 have cg:=fun i h=>gwP (e.vars.getD i default).sigla 8 h (hb.g i)
 have hv:=hb.v;have z8:((8:Nat):Int)=8:=rfl;simp only[z8]at cs cw cg;obtain⟨R,hR⟩: ∃R,R=geB e:=⟨_,rfl⟩
 rw[←hR];unfold geB at hR
 by_cases g1:6<e.vars.length
 ·have k1:((6:Int)<e.vars.length)=True:=eqt om;rw[dqt g1]at hR;rw[hR];refine acO qlG ?_;simp (disch:=omega) only[qoO,enC,qW,k1,go_sem]
  repeat' first
   |(refine qm (.bool true) ?_;simp (disch:=omega) only[go_sem])
   |(apply qb;exact rvk;simp only[go_sem];exact qk)
   |with_reducible apply aiA
  all_goals try exact clz
 have k1:((6:Int)<e.vars.length)=False:=eqf om;rw[dqf g1,Bool.false_or]at hR;cases g2:gwB e.sup 8 with
 |true=>
  rw[g2]at hR cs;rw[hR];refine acO qlG ?_;simp (disch:=omega) only[qoO,enC,qW,k1,go_sem]
  repeat' first
   |(refine cG (fun e=>cs _) flk ?_;simp (disch:=omega) only[go_sem])
   |(apply qb;exact rvk;simp only[go_sem];exact qk)
   |with_reducible apply aiA
  all_goals try exact clz
 |false=>
 rw[g2,Bool.false_or]at hR;rw[g2]at cs;refine acO qlG ?_;simp (disch:=omega) only[qoO,enC,qW,k1,go_sem]
 repeat' first
  |(refine cG (fun e=>cs _) flk ?_;simp (disch:=omega) only[go_sem])
  |with_reducible apply aiA
 all_goals try exact clz
 refine qn (T:=fun i:Nat=>qI 36 [(1,.op h.length 1 0),(3,.int .i64 i)]) (H:=fun _=>h++ [.mem 1 58 (enC e)]) (inv:=fun i=>i≤e.vars.length∧ ∀j,j<i→(fun i=>gwB (e.vars.getD i default).words 8||gwB (e.vars.getD i default).sigla 8) j=false) (m:=fun i=>e.vars.length-i) 0 ⟨nzl _,fun j hj=>by omega⟩ ?_ ?_
 ·refine Wk.temps ?_
  (simp only[go_sem,qj,qd,qa,qi];try (repeat' first|(with_reducible apply aiA)|(apply qh;omega)|(apply qg;rfl)|exact qk))
 rintro i ⟨i1,i2⟩ K hK
 by_cases hi:i<e.vars.length
 ·have k2:((i:Int)<e.vars.length)=True:=eqt om;have cw:=cw i;have cg:=cg i;have hit:(gwB (e.vars.getD i default).words 8||gwB (e.vars.getD i default).sigla 8)=true→R=true:=fun hc=>by rw[hR];exact qG.2 ⟨i,hi,hc⟩
  have i3:=fun hc=>qa1 (p:=fun i=>gwB (e.vars.getD i default).words 8||gwB (e.vars.getD i default).sigla 8) i2 hc
  obtain⟨v,hv⟩: ∃v,v=e.vars.getD i default:=⟨_,rfl⟩
  have ev:=hv.symm;simp only[ev]at cw cg hit i3;cases g3:gwB v.words 8 with
  |true=>
   rw[g3]at cw hit;rw[hit rfl];simp (disch:=omega) only[enC,qW,vaC,k2,ev,go_sem]
   repeat' first
    |(refine qm (.bool true) ?_;simp (disch:=omega) only[go_sem])
    |(refine cA (cw _) flk ?_;simp (disch:=omega) only[k2,ev,go_sem])
    |(apply qb;exact rvk;simp only[go_sem];exact qk)
    |with_reducible apply aiA
   all_goals try exact clz
  |false=>
   rw[g3]at cw hit;cases g4:gwB v.sigla 8 with
   |true=>
    rw[g4]at cg hit;rw[hit rfl];simp (disch:=omega) only[enC,qW,vaC,k2,ev,go_sem]
    repeat' first
     |((first|refine cA (cw _) ?_ ?_|refine cG (fun e=>cg _) ?_ ?_);exact flk;simp (disch:=omega) only[k2,ev,go_sem])
     |(apply qb;exact rvk;simp only[go_sem];exact qk)
     |with_reducible apply aiA
    all_goals try exact clz
   |false=>
    rw[g4]at cg;simp (disch:=omega) only[enC,qW,vaC,k2,ev,go_sem]
    repeat' first
     |((first|refine cA (cw _) ?_ ?_|refine cG (fun e=>cg _) ?_ ?_);exact flk;simp (disch:=omega) only[k2,ev,go_sem])
     |with_reducible apply aiA
    all_goals try exact clz
    refine hK _ _ (i+1) ⟨hi,i3 (by rw[g3,g4];rfl)⟩ om (Wk.temps ?_)
    (simp only[go_sem,qj,qd,qa,qi];try (repeat' first|(with_reducible apply aiA)|(apply qh;omega)|(apply qg;rfl)|exact qk))
 ·have k2:((i:Int)<e.vars.length)=False:=eqf om;rw[qo.2 (fun j hj=>i2 j om)]at hR;rw[hR];simp (disch:=omega) only[enC,qW,k2,go_sem]
  repeat' first
   |(apply qb;exact rvk;simp only[go_sem];exact qk)
   |with_reducible apply aiA
  all_goals try exact clz
def qwv(l:List En):Bool:=decide (10<l.length)||zd (fun i=>geB (l.getD i default)) l.length
theorem qEr(l:List En)(h:List AObj)(hb: ∀i,EnB (l.getD i default))(hn:l.length≤9223372036854775807):ACalls Tryz.prog 71 [zg l] h (.bool (qwv l)) h:=by
 have c:=fun i h=>geP (l.getD i default) h (hb i)
 obtain⟨R,hR⟩: ∃R,R=qwv l:=⟨_,rfl⟩
 rw[←hR];unfold qwv at hR
 by_cases g1:10<l.length
 ·have k1:((10:Int)<l.length)=True:=eqt om;have k2:((l.length:Int)≤10)=False:=eqf om;have k3:((0:Int)<l.length)=True:=eqt om;rw[dqt g1]at hR;rw[hR];refine acO qzP ?_;simp (disch:=omega) only[qBU,zg,go_sem];refine qn (T:=fun _:Unit=>qI 23 [(0,zg l),(3,.int .i64 0)]) (H:=fun _=>h) (inv:=fun _=>True) (m:=fun _=>0) () trivial (Wk.temps ?_) ?_
  ·(simp only[zg,go_sem,qj,qd,qa,qi];try (repeat' first|(with_reducible apply aiA)|(apply qh;omega)|(apply qg;rfl)|exact qk))
  rintro _ _ K hK;simp (disch:=omega) only[zg,k1,k2,k3,go_sem]
  repeat' first
   |(apply qe;exact rvk;simp only[go_sem];exact qk)
 have k1:((10:Int)<l.length)=False:=eqf om;have k2:((l.length:Int)≤10)=True:=eqt om;rw[dqf g1,Bool.false_or]at hR;refine acO qzP ?_;simp (disch:=omega) only[qBU,zg,go_sem];refine qn (T:=fun i:Nat=>qI 23 [(0,zg l),(3,.int .i64 i)]) (H:=fun _=>h) (inv:=fun i=>i≤l.length∧ ∀j,j<i→(fun i=>geB (l.getD i default)) j=false) (m:=fun i=>l.length-i) 0 ⟨nzl _,fun j hj=>by omega⟩ (Wk.temps ?_) ?_
 ·(simp only[zg,go_sem,qj,qd,qa,qi];try (repeat' first|(with_reducible apply aiA)|(apply qh;omega)|(apply qg;rfl)|exact qk))
 rintro i ⟨i1,i2⟩ K hK
 by_cases hi:i<l.length
 ·have k3:((i:Int)<l.length)=True:=eqt om;have c:=c i;have hit:geB (l.getD i default)=true→R=true:=fun hc=>by rw[hR];exact qG.2 ⟨i,hi,hc⟩
  have i3:=fun hc=>qa1 (p:=fun i=>geB (l.getD i default)) i2 hc
  obtain⟨x,hx⟩: ∃x,x=l.getD i default:=⟨_,rfl⟩
  have ex:=hx.symm;simp only[ex]at c hit i3;simp only[enC]at c;cases g3:geB x with
  |true=>
   rw[g3]at c;rw[hit g3];simp (disch:=omega) only[zg,enC,k2,k3,ex,go_sem]
   repeat' first
    |(refine cA (c _) flk ?_;simp (disch:=omega) only[go_sem])
    |(apply qe;exact rvk;simp only[go_sem];exact qk)
    |with_reducible apply aiA
   all_goals try exact clz
  |false=>
   rw[g3]at c;simp (disch:=omega) only[zg,enC,k2,k3,ex,go_sem]
   repeat' first
    |(refine cA (c _) flk ?_;simp (disch:=omega) only[go_sem])
    |with_reducible apply aiA
   all_goals try exact clz
   refine hK _ _ (i+1) ⟨hi,i3 g3⟩ om (Wk.temps ?_)
   (simp only[zg,go_sem,qj,qd,qa,qi];try (repeat' first|(with_reducible apply aiA)|(apply qh;omega)|(apply qg;rfl)|exact qk))
 ·have k3:((i:Int)<l.length)=False:=eqf om;rw[qo.2 (fun j hj=>i2 j om)]at hR;rw[hR];simp (disch:=omega) only[zg,k1,k2,k3,go_sem]
  repeat' first
   |(apply qe;exact rvk;simp only[go_sem];exact qk)
def grB(g:Gr):Bool:=decide (20<g.name.length)||decide (40<g.mem.length)
def qlN(names:List Str)(gs:List Gr):Bool:=
 zd (fun i=>decide (20<(names.getD i []).length)) names.length||(zd (fun i=>grB (gs.getD i default)) gs.length||
  (((decide (8<names.length)&&decide (names.length≤32))||decide (34<names.length))||(decide (5<gs.length)&&decide (gs.length≤16))||decide (18<gs.length)))
theorem qEq(names:List Str)(gs:List Gr)(h:List AObj)(hn:names.length≤9223372036854775807)(hg:gs.length≤9223372036854775807):ACalls Tryz.prog 69 [strs names,qu gs] h (.bool (qlN names gs)) h:=by
 obtain⟨R,hR⟩: ∃R,R=qlN names gs:=⟨_,rfl⟩
 rw[←hR];unfold qlN at hR;refine acO qCl ?_;simp (disch:=omega) only[qDo,strs,qu,go_sem];refine qn (T:=fun i:Nat=>qI 69 [(0,strs names),(1,qu gs),(5,.int .i64 i)]) (H:=fun _=>h) (inv:=fun i=>i≤names.length∧ ∀j,j<i→(fun i=>decide (20<(names.getD i []).length)) j=false) (m:=fun i=>names.length-i) 0 ⟨nzl _,fun j hj=>by omega⟩ (Wk.temps ?_) ?_
 ·(simp only[strs,qu,go_sem,qj,qd,qa,qi];try (repeat' first|(with_reducible apply aiA)|(apply qh;omega)|(apply qg;rfl)|exact qk))
 rintro i ⟨i1,i2⟩ K hK
 by_cases hi:i<names.length
 ·have k1:((i:Int)<names.length)=True:=eqt om
  by_cases g:20<(names.getD i []).length
  ·have hV:R=true:=by rw[hR,qG.2 ⟨i,hi,dqt g⟩];rfl
   obtain⟨s,hs⟩: ∃s,s=names.getD i []:=⟨_,rfl⟩
   have es:=hs.symm;rw[es]at g;have k2:((20:Int)<s.length)=True:=eqt om;rw[hV];simp (disch:=omega) only[strs,qu,k1,k2,es,go_sem]
   repeat' first
    |(apply qe;exact rvk;simp only[go_sem];exact qk)
    |with_reducible apply aiA
   all_goals try exact clz
  ·have i3:=qa1 i2 (dqf g);obtain⟨s,hs⟩: ∃s,s=names.getD i []:=⟨_,rfl⟩
   have es:=hs.symm;rw[es]at g;have k2:((20:Int)<s.length)=False:=eqf om;simp (disch:=omega) only[strs,qu,k1,k2,es,go_sem]
   repeat' first
    |with_reducible apply aiA
   all_goals try exact clz
   refine hK _ _ (i+1) ⟨hi,i3⟩ om (Wk.temps ?_)
   (simp only[strs,qu,go_sem,qj,qd,qa,qi];try (repeat' first|(with_reducible apply aiA)|(apply qh;omega)|(apply qg;rfl)|exact qk))
 have k1:((i:Int)<names.length)=False:=eqf om;rw[qo.2 (fun j hj=>i2 j om),Bool.false_or]at hR;simp (disch:=omega) only[strs,qu,k1,go_sem];refine qn (T:=fun i:Nat=>qI 69 [(0,strs names),(1,qu gs),(6,.int .i64 i)]) (H:=fun _=>h) (inv:=fun i=>i≤gs.length∧ ∀j,j<i→(fun i=>grB (gs.getD i default)) j=false) (m:=fun i=>gs.length-i) 0 ⟨nzl _,fun j hj=>by omega⟩ (Wk.temps ?_) ?_
 ·(simp only[strs,qu,go_sem,qj,qd,qa,qi];try (repeat' first|(with_reducible apply aiA)|(apply qh;omega)|(apply qg;rfl)|exact qk))
 clear hK K;rintro i ⟨i1,i2⟩ K hK
 by_cases hi:i<gs.length
 ·have k1:((i:Int)<gs.length)=True:=eqt om;have hit:grB (gs.getD i default)=true→R=true:=fun hc=>by rw[hR,qG.2 ⟨i,hi,hc⟩];rfl
  have i3:=fun hc=>qa1 (p:=fun i=>grB (gs.getD i default)) i2 hc
  obtain⟨g,hg⟩: ∃g,g=gs.getD i default:=⟨_,rfl⟩
  have eg:=hg.symm;simp only[eg]at hit i3;have hB:grB g=(decide (20<g.name.length)||decide (40<g.mem.length)):=rfl
  by_cases g1:20<g.name.length
  ·have k2:((20:Int)<g.name.length)=True:=eqt om;rw[hit (by rw[hB,dqt g1];rfl)];simp (disch:=omega) only[strs,qu,grC,k1,k2,eg,go_sem]
   repeat' first
    |(apply qe;exact rvk;simp only[go_sem];exact qk)
    |with_reducible apply aiA
   all_goals try exact clz
  ·have k2:((20:Int)<g.name.length)=False:=eqf om
   by_cases g2:40<g.mem.length
   ·have k3:((40:Int)<g.mem.length)=True:=eqt om;rw[hit (by rw[hB,dqt g2,Bool.or_true])];simp (disch:=omega) only[strs,qu,grC,ql,k1,k2,k3,eg,go_sem]
    repeat' first
     |(apply qe;exact rvk;simp only[go_sem];exact qk)
     |with_reducible apply aiA
    all_goals try exact clz
   ·have k3:((40:Int)<g.mem.length)=False:=eqf om;simp (disch:=omega) only[strs,qu,grC,ql,k1,k2,k3,eg,go_sem]
    repeat' first
     |with_reducible apply aiA
    all_goals try exact clz
    refine hK _ _ (i+1) ⟨hi,i3 (by rw[hB,dqf g1,dqf g2];rfl)⟩ om (Wk.temps ?_)
    (simp only[strs,qu,go_sem,qj,qd,qa,qi];try (repeat' first|(with_reducible apply aiA)|(apply qh;omega)|(apply qg;rfl)|exact qk))
 have k2:((i:Int)<gs.length)=False:=eqf om;rw[qo.2 (fun j hj=>i2 j om),Bool.false_or]at hR;have n1:((8:Int)<names.length)=(8<names.length):=propext om;have n2:((names.length:Int)≤32)=(names.length≤32):=propext om;have n3:((34:Int)<names.length)=(34<names.length):=propext om;have n4:((5:Int)<gs.length)=(5<gs.length):=propext om;have n5:((gs.length:Int)≤16)=(gs.length≤16):=propext om;have n6:((18:Int)<gs.length)=(18<gs.length):=propext om;obtain⟨q1,h1⟩: ∃q,q=decide (8<names.length):=⟨_,rfl⟩
 obtain⟨q2,h2⟩: ∃q,q=decide (names.length≤32):=⟨_,rfl⟩
 obtain⟨q3,h3⟩: ∃q,q=decide (34<names.length):=⟨_,rfl⟩
 obtain⟨q4,h4⟩: ∃q,q=decide (5<gs.length):=⟨_,rfl⟩
 obtain⟨q5,h5⟩: ∃q,q=decide (gs.length≤16):=⟨_,rfl⟩
 obtain⟨q6,h6⟩: ∃q,q=decide (18<gs.length):=⟨_,rfl⟩
 have e1:=h1.symm;have e2:=h2.symm;have e3:=h3.symm;have e4:=h4.symm;have e5:=h5.symm;have e6:=h6.symm;rw[e1,e2,e3,e4,e5,e6]at hR;have b1:(q1=true∧q2=true)∨(q1=false∧q2=true)∨(q1=true∧q2=false)∨(q1=false∧q2=false):=by cases q1<;>cases q2<;>simp
 have b4:(q4=true∧q5=true)∨(q4=false∧q5=true)∨(q4=true∧q5=false)∨(q4=false∧q5=false):=by cases q4<;>cases q5<;>simp
 clear h1 h2 h3 h4 h5 h6;rcases b1 with⟨rfl,rfl⟩|⟨rfl,rfl⟩|⟨rfl,rfl⟩|⟨rfl,rfl⟩
 ·skip
  simp only[Bool.true_and,Bool.true_or]at hR;rw[hR];simp (disch:=omega) only[strs,qu,k2,n1,n2,n3,n4,n5,n6,e1,e2,e3,e4,e5,e6,go_sem]
  repeat' first
   |(apply qe;exact rvk;simp only[go_sem];exact qk)
 ·skip
  cases q3 with
  |true=>
   simp only[Bool.false_and,Bool.true_or,Bool.false_or]at hR;rw[hR];simp (disch:=omega) only[strs,qu,k2,n1,n2,n3,n4,n5,n6,e1,e2,e3,e4,e5,e6,go_sem]
   repeat' first
    |(apply qe;exact rvk;simp only[go_sem];exact qk)
  |false=>
   rcases b4 with⟨rfl,rfl⟩|⟨rfl,rfl⟩|⟨rfl,rfl⟩|⟨rfl,rfl⟩
   ·skip
    simp only[Bool.true_and,Bool.false_and,Bool.true_or,Bool.false_or]at hR;rw[hR];simp (disch:=omega) only[strs,qu,k2,n1,n2,n3,n4,n5,n6,e1,e2,e3,e4,e5,e6,go_sem]
    repeat' first
     |(apply qe;exact rvk;simp only[go_sem];exact qk)
   ·skip
    cases q6 with
    |true=>
     simp only[Bool.false_and,Bool.false_or]at hR;rw[hR];simp (disch:=omega) only[strs,qu,k2,n1,n2,n3,n4,n5,n6,e1,e2,e3,e4,e5,e6,go_sem]
     repeat' first
      |(apply qe;exact rvk;simp only[go_sem];exact qk)
    |false=>
     simp only[Bool.false_and,Bool.false_or]at hR;rw[hR];simp (disch:=omega) only[strs,qu,k2,n1,n2,n3,n4,n5,n6,e1,e2,e3,e4,e5,e6,go_sem]
     repeat' first
      |(apply qe;exact rvk;simp only[go_sem];exact qk)
   ·skip
    cases q6 with
    |true=>
     simp only[Bool.true_and,Bool.false_and,Bool.false_or]at hR;rw[hR];simp (disch:=omega) only[strs,qu,k2,n1,n2,n3,n4,n5,n6,e1,e2,e3,e4,e5,e6,go_sem]
     repeat' first
      |(apply qe;exact rvk;simp only[go_sem];exact qk)
    |false=>
     simp only[Bool.true_and,Bool.false_and,Bool.false_or]at hR;rw[hR];simp (disch:=omega) only[strs,qu,k2,n1,n2,n3,n4,n5,n6,e1,e2,e3,e4,e5,e6,go_sem]
     repeat' first
      |(apply qe;exact rvk;simp only[go_sem];exact qk)
   ·skip
    cases q6 with
    |true=>
     simp only[Bool.false_and,Bool.false_or]at hR;rw[hR];simp (disch:=omega) only[strs,qu,k2,n1,n2,n3,n4,n5,n6,e1,e2,e3,e4,e5,e6,go_sem]
     repeat' first
      |(apply qe;exact rvk;simp only[go_sem];exact qk)
    |false=>
     simp only[Bool.false_and,Bool.false_or]at hR;rw[hR];simp (disch:=omega) only[strs,qu,k2,n1,n2,n3,n4,n5,n6,e1,e2,e3,e4,e5,e6,go_sem]
     repeat' first
      |(apply qe;exact rvk;simp only[go_sem];exact qk)
 ·skip
  cases q3 with
  |true=>
   simp only[Bool.true_and,Bool.true_or,Bool.false_or]at hR;rw[hR];simp (disch:=omega) only[strs,qu,k2,n1,n2,n3,n4,n5,n6,e1,e2,e3,e4,e5,e6,go_sem]
   repeat' first
    |(apply qe;exact rvk;simp only[go_sem];exact qk)
  |false=>
   rcases b4 with⟨rfl,rfl⟩|⟨rfl,rfl⟩|⟨rfl,rfl⟩|⟨rfl,rfl⟩
   ·skip
    simp only[Bool.true_and,Bool.true_or,Bool.false_or]at hR;rw[hR];simp (disch:=omega) only[strs,qu,k2,n1,n2,n3,n4,n5,n6,e1,e2,e3,e4,e5,e6,go_sem]
    repeat' first
     |(apply qe;exact rvk;simp only[go_sem];exact qk)
   ·skip
    cases q6 with
    |true=>
     simp only[Bool.true_and,Bool.false_and,Bool.false_or]at hR;rw[hR];simp (disch:=omega) only[strs,qu,k2,n1,n2,n3,n4,n5,n6,e1,e2,e3,e4,e5,e6,go_sem]
     repeat' first
      |(apply qe;exact rvk;simp only[go_sem];exact qk)
    |false=>
     simp only[Bool.true_and,Bool.false_and,Bool.false_or]at hR;rw[hR];simp (disch:=omega) only[strs,qu,k2,n1,n2,n3,n4,n5,n6,e1,e2,e3,e4,e5,e6,go_sem]
     repeat' first
      |(apply qe;exact rvk;simp only[go_sem];exact qk)
   ·skip
    cases q6 with
    |true=>
     simp only[Bool.true_and,Bool.false_or]at hR;rw[hR];simp (disch:=omega) only[strs,qu,k2,n1,n2,n3,n4,n5,n6,e1,e2,e3,e4,e5,e6,go_sem]
     repeat' first
      |(apply qe;exact rvk;simp only[go_sem];exact qk)
    |false=>
     simp only[Bool.true_and,Bool.false_or]at hR;rw[hR];simp (disch:=omega) only[strs,qu,k2,n1,n2,n3,n4,n5,n6,e1,e2,e3,e4,e5,e6,go_sem]
     repeat' first
      |(apply qe;exact rvk;simp only[go_sem];exact qk)
   ·skip
    cases q6 with
    |true=>
     simp only[Bool.true_and,Bool.false_and,Bool.false_or]at hR;rw[hR];simp (disch:=omega) only[strs,qu,k2,n1,n2,n3,n4,n5,n6,e1,e2,e3,e4,e5,e6,go_sem]
     repeat' first
      |(apply qe;exact rvk;simp only[go_sem];exact qk)
    |false=>
     simp only[Bool.true_and,Bool.false_and,Bool.false_or]at hR;rw[hR];simp (disch:=omega) only[strs,qu,k2,n1,n2,n3,n4,n5,n6,e1,e2,e3,e4,e5,e6,go_sem]
     repeat' first
      |(apply qe;exact rvk;simp only[go_sem];exact qk)
 ·skip
  cases q3 with
  |true=>
   simp only[Bool.false_and,Bool.true_or,Bool.false_or]at hR;rw[hR];simp (disch:=omega) only[strs,qu,k2,n1,n2,n3,n4,n5,n6,e1,e2,e3,e4,e5,e6,go_sem]
   repeat' first
    |(apply qe;exact rvk;simp only[go_sem];exact qk)
  |false=>
   rcases b4 with⟨rfl,rfl⟩|⟨rfl,rfl⟩|⟨rfl,rfl⟩|⟨rfl,rfl⟩
   ·skip
    simp only[Bool.true_and,Bool.false_and,Bool.true_or,Bool.false_or]at hR;rw[hR];simp (disch:=omega) only[strs,qu,k2,n1,n2,n3,n4,n5,n6,e1,e2,e3,e4,e5,e6,go_sem]
    repeat' first
     |(apply qe;exact rvk;simp only[go_sem];exact qk)
   ·skip
    cases q6 with
    |true=>
     simp only[Bool.false_and,Bool.false_or]at hR;rw[hR];simp (disch:=omega) only[strs,qu,k2,n1,n2,n3,n4,n5,n6,e1,e2,e3,e4,e5,e6,go_sem]
     repeat' first
      |(apply qe;exact rvk;simp only[go_sem];exact qk)
    |false=>
     simp only[Bool.false_and,Bool.false_or]at hR;rw[hR];simp (disch:=omega) only[strs,qu,k2,n1,n2,n3,n4,n5,n6,e1,e2,e3,e4,e5,e6,go_sem]
     repeat' first
      |(apply qe;exact rvk;simp only[go_sem];exact qk)
   ·skip
    cases q6 with
    |true=>
     simp only[Bool.true_and,Bool.false_and,Bool.false_or]at hR;rw[hR];simp (disch:=omega) only[strs,qu,k2,n1,n2,n3,n4,n5,n6,e1,e2,e3,e4,e5,e6,go_sem]
     repeat' first
      |(apply qe;exact rvk;simp only[go_sem];exact qk)
    |false=>
     simp only[Bool.true_and,Bool.false_and,Bool.false_or]at hR;rw[hR];simp (disch:=omega) only[strs,qu,k2,n1,n2,n3,n4,n5,n6,e1,e2,e3,e4,e5,e6,go_sem]
     repeat' first
      |(apply qe;exact rvk;simp only[go_sem];exact qk)
   ·skip
    cases q6 with
    |true=>
     simp only[Bool.false_and,Bool.false_or]at hR;rw[hR];simp (disch:=omega) only[strs,qu,k2,n1,n2,n3,n4,n5,n6,e1,e2,e3,e4,e5,e6,go_sem]
     repeat' first
      |(apply qe;exact rvk;simp only[go_sem];exact qk)
    |false=>
     simp only[Bool.false_and,Bool.false_or]at hR;rw[hR];simp (disch:=omega) only[strs,qu,k2,n1,n2,n3,n4,n5,n6,e1,e2,e3,e4,e5,e6,go_sem]
     repeat' first
      |(apply qe;exact rvk;simp only[go_sem];exact qk)
theorem qdq{ws:List Str}{n:Nat}(h:gwB ws n=false):ws.length≤n∧ ∀i,(ws.getD i []).length≤20:=by
 unfold gwB at h;rw[Bool.or_eq_false_iff,decide_eq_false_iff_not,qo]at h;refine⟨om,fun i=> ?_⟩
 by_cases hi:i<ws.length
 ·have:=of_decide_eq_false (h.1 i hi)
  omega
 ·rw[gdqA,List.getElem?_eq_none om];exact nzl _
theorem qlQ{e:En}(h:geB e=false):e.vars.length≤6∧e.sup.length≤8∧ ∀i,((e.vars.getD i default).words.length≤8∧ ∀j,((e.vars.getD i default).words.getD j []).length≤20)∧(e.vars.getD i default).sigla.length≤8:=by
 unfold geB at h;rw[Bool.or_eq_false_iff,Bool.or_eq_false_iff,decide_eq_false_iff_not,qo]at h;refine⟨om,(qdq h.1.2).1,fun i=> ?_⟩
 by_cases hi:i<e.vars.length
 ·have:=h.2 i hi
  simp only[Bool.or_eq_false_iff]at this;exact⟨qdq this.1,(qdq this.2).1⟩
 ·rw[gdqA,List.getElem?_eq_none om];exact⟨⟨nzl _,fun j=>nzl _⟩,nzl _⟩
theorem quq{l:List En}(h:qwv l=false):l.length≤10∧ ∀i,geB (l.getD i default)=false:=by
 unfold qwv at h;rw[Bool.or_eq_false_iff,decide_eq_false_iff_not,qo]at h;refine⟨om,fun i=> ?_⟩
 by_cases hi:i<l.length
 ·exact h.2 i hi
 ·rw[gdqA,List.getElem?_eq_none om];rfl
theorem qlO{names:List Str}{gs:List Gr}(h:qlN names gs=false):names.length≤34∧gs.length≤18∧(∀i,(names.getD i []).length≤20)∧ ∀i,(gs.getD i default).name.length≤20∧(gs.getD i default).mem.length≤40:=by
 unfold qlN at h;simp only[Bool.or_eq_false_iff,decide_eq_false_iff_not,qo]at h;obtain⟨h1,h2,⟨⟨_,h3⟩,_⟩,h4⟩:=h;refine⟨om,om,fun i=> ?_,fun i=> ?_⟩
 ·by_cases hi:i<names.length
  ·have:=h1 i hi
   omega
  ·rw[gdqA,List.getElem?_eq_none om];exact nzl _
 ·by_cases hi:i<gs.length
  ·have:=h2 i hi
   unfold grB at this;simp only[Bool.or_eq_false_iff,decide_eq_false_iff_not]at this;omega
  ·rw[gdqA,List.getElem?_eq_none om];exact⟨nzl _,nzl _⟩
end RC
end
section
open Go Go.Proofs AF HY LN
namespace AF
theorem qaD{v:Nat}{ty:TypeId}{cs:List AV}{n:Nat}(h: ∀c∈cs,lowV n c=true):lowO n (zP v ty cs):=by
 unfold zP;split
 ·trivial
 ·exact h
end AF
namespace RC
theorem qiZ(L:List Str):(strs L).solid=true:=rfl
theorem qh6(L:List Str):(strs L).cells= [strs L]:=rfl
theorem qfL{k v z p n:Nat}(L:List Str):qcr (.osl k v z p n) (strs L)=true:=rfl
attribute [go_sem] qiZ qh6 qfL
theorem qei{v:Nat}{L:List Str}{g:AV→AV}{n:Nat}(hg: ∀s,g (.str s)= .str s)(hn:n=L.length):VLe (qeh (some (zP v 9 (zY L))) v 1 0 n g) (strs L):=by
 subst hn
 by_cases h:L= []
 ·subst h;show VLe (qeh (some (.emp v)) v 1 0 0 g) _;rw[slOf_emp,ipo rfl];exact jf
 ·have e0:zP v 9 (zY L)= .mem v 9 (zY L):=jJ (fun e=>h (qq7.1 e));rw[e0,slOf_mem,ipo ⟨rfl,by rw[jb];omega⟩];simp only[Nat.zero_add,Nat.mul_one];exact qel g hg rfl
end RC
end
section
open Go Go.Proofs AF HY LN
namespace AF
theorem Wk.fzCell{t:List AV}{h:List AObj}{j k i v:Nat}{ty:TypeId}{cs:List AV}{c c':AV}(hj:qA j h=some (.mem v ty cs))(hi:cs[i]? =some c)(hs:qC h k=true)(hne:j≠k)(hc:VLe (frz (fun b=> [k].contains b) h 8 c) c'):
  Wk t h t (setO j (setO k h (.emp (qr (qA k h)+1))) (.mem v ty (cs.set i c'))):=by
 intro N w σ a H;have hs':ju [k] h=true:=by simp[ju,hs]
 obtain⟨σ',g1,g2,g3,g4⟩:=qcN [k] H.hr hs';have hn:j∉ [k]:=by simp[hne]
 have frzv: ∀c x,VR w σ c x→VR w σ' (frz (fun b=> [k].contains b) h 8 c) x:=fun c x hx=>
  qhg H.hr (fun b hb=>(g4 b hb).elim fun j ⟨o,h1,h2,h3⟩=>⟨j,o,by simpa using h1,h2,h3⟩) (fun j o hj ho=>g3 j o (by simpa using hj) ho) 8 hx
 have hjl:j<σ.length:=by rw[H.hr.len];exact jd hj
 have ho:=zp hjl;obtain⟨m1,m2,b,arr,m3,m4,m5,m6,m7,m8⟩:=H.hr.obj j _ _ hj ho;have q:=g1.recell (cs':=cs.set i c') ((qpY hn).trans hj) (g3 j _ hn ho) m3 m4 m5 (by simpa using m6) (fun n x hn hx=>m7 n x (by simpa using hn) hx) (fun n d x hd hx=>by
  rw[List.getElem?_set]at hd;split at hd
  ·rename_i e;subst e;split at hd
   ·cases hd;exact hc _ _ _ (frzv _ x (m8 i _ x hi hx))
   ·cases hd
  ·exact (m8 n d x hd hx).ext g2)
 exact⟨σ',⟨q,H.sz,fun n d x hd hx=>(H.tm n d x hd hx).ext g2,qaO g2 H.df⟩,g2⟩
theorem qch{h:List AObj}{k ve sz off n:Nat}:frz (fun b=> [k].contains b) h 8 (.osl k ve sz off n)=qeh (qA k h) ve sz off n (rei (fun b=> [k].contains b) h 7):=by
 rw[frz_osl,ipo (by simp),rei_osl,ipo (by simp)]
end AF
namespace RC
theorem qiX(L:List Gr):(qu L).solid=true:=rfl
theorem qh4(L:List Gr):(qu L).cells= [qu L]:=rfl
theorem qiW(L:List En):(zg L).solid=true:=rfl
theorem qh3(L:List En):(zg L).cells= [zg L]:=rfl
theorem qnt(names:List Str)(gs:List Gr)(e:En):(stV names gs e).solid=true:=rfl
theorem qkX(names:List Str)(gs:List Gr)(e:En):(stV names gs e).cells= [stV names gs e]:=rfl
theorem qnr(names:List Str)(gs:List Gr)(L:List En):(msV names gs L).solid=true:=rfl
theorem qkV(names:List Str)(gs:List Gr)(L:List En):(msV names gs L).cells= [msV names gs L]:=rfl
theorem qgo(L:List Int):(ql L).solid=true:=rfl
theorem qfR(L:List Int):(ql L).cells= [ql L]:=rfl
attribute [go_sem] qiX qh4 qiW qh3 qnt qkX qnr qkV qgo qfR
theorem qqS{v n:Nat}{ty:TypeId}{L:List En}{fz:Nat→Bool}{h:List AObj}{d:Nat}(hn:n=L.length):VLe (qeh (some (.mem v ty (jh L))) v 6 0 n (rei fz h (d+1))) (zg L):=by
 subst hn;rw[slOf_mem,ipo ⟨rfl,by rw[jN];omega⟩];refine VLe.sl_eq rfl (fun i hi=> ?_);simp only[Nat.zero_add];rw[qa6 hi];rfl
end RC
end
section
open Go Go.Proofs AF HY LN
namespace RC
section
variable (names : List Str) (gs : List Gr) (t : List Str) (l : List En) (src : Int) (h : List AObj)
theorem qaE{v n:Nat}{L:List Int}{g:AV→AV}(hg: ∀s,g (.int .i64 s)= .int .i64 s)(hn:n=L.length):VLe (qeh (some (zP v 3 (qp L))) v 1 0 n g) (ql L):=by
 subst hn
 by_cases h:L= []
 ·subst h;show VLe (qeh (some (.emp v)) v 1 0 0 g) _;rw[slOf_emp,ipo rfl];exact jf
 ·have e0:zP v 3 (qp L)= .mem v 3 (qp L):=jJ (fun e=>h (qe4.1 e));rw[e0,slOf_mem,ipo ⟨rfl,by rw[qy];omega⟩];simp only[Nat.zero_add,Nat.mul_one];exact zO g hg rfl
end
section
variable (names : List Str) (gs : List Gr) (t : List Str) (l : List En) (src : Int) (h : List AObj)
end
end RC
end
section
open Go Go.Proofs AF HY LN
namespace RC
end RC
namespace RC
end RC
end
section
open Go Go.Proofs AF HY LN
namespace AF
structure qws (E:AV) (n:Nat) (cs:List AV):Prop where
 fl:E.flag=true
 st:E.strip=E
 vl: ∀g,valL g .len [E]= .int .i64 n
 ok: ∀g,okL g .len [E]=True
 sc: ∀g,qt g E=some (n,cs)
 ap: ∀k v z p m,qcr (.osl k v z p m) E=true
theorem qws.sl(n:Nat)(f:Nat→List AV):qws (.sl n f) n ((List.range n).flatMap f):=⟨rfl,rfl,fun _=>rfl,fun _=>eqt trivial,fun _=>rfl,fun _ _ _ _ _=>rfl⟩
theorem qEu{P:Program}{f:FuncId}{args:List AV}{h h':List AObj}{r:AV}(ks:List Nat)(hs:ju ks h=true)(hc:ACalls P f (args.map (frz (fun k=>ks.contains k) h 8)) (qbs ks h) r h'):ACalls P f args h r h':=by
 refine⟨hc.1,fun w σ xs H hv=> ?_⟩;obtain⟨σ',g1,g2,g3,g4⟩:=qcN ks H hs;refine (hc.2 w σ' xs g1 ⟨by rw[hv.1];simp,fun i c x hcc hx=> ?_⟩).mono ?_
 ·rw[List.getElem?_map,Option.map_eq_some_iff]at hcc;obtain⟨c0,hcc,rfl⟩:=hcc;exact qhg H (fun b hb=>(g4 b hb).elim fun j ⟨o,h1,h2,h3⟩=>⟨j,o,by simpa using h1,h2,h3⟩) (fun j o hj ho=>g3 j o (by simpa using hj) ho) 8 (hv.2 i c0 x hcc hx)
 ·rintro e w' ⟨v,σ2,rfl,k1,k2,k3⟩;exact⟨v,σ2,rfl,k1,k2,g2.trans k3⟩
end AF
namespace RC
theorem qpl{L:List En}{n:Nat}{fz:Nat→Bool}{h:List AObj}{d:Nat}(hn:n=L.length):VLe (.sl n fun i=>(((jh L).drop (i*6)).take 6).map (rei fz h (d+1))) (zg L):=by
 subst hn;refine VLe.sl_eq rfl (fun i hi=> ?_);rw[qa6 hi];rfl
theorem qws.strs(L:List Str):qws (strs L) L.length (zY L):=⟨rfl,rfl,fun _=>rfl,fun _=>eqt trivial,fun g=>qq5 g L,fun _ _ _ _ _=>rfl⟩
theorem qws.sub{t:List Str}{a b:Nat}(h1:a≤b)(h2:b≤t.length):qws (.sl (b-a) fun i=> [.str (t.getD (a+i) [])]) (qaQ t a b).length (zY (qaQ t a b)):=by
 rw[qem h1 h2];exact⟨rfl,rfl,fun _=>rfl,fun _=>eqt trivial,fun g=>qnA g h1 h2,fun _ _ _ _ _=>rfl⟩
end RC
end
section
open Go Go.Proofs AF HY LN
namespace RC
def anN(a b:Nat):Nat:=a&&&(2^64-1-b)
theorem qry(a b:Nat):anN a b≤a:=Nat.and_le_left
theorem qgT{a b:Nat}(ha:a<2^64)(hb:b<2^64):qfK .u64 (a:Int) (b:Int)=((anN a b:Nat):Int):=by
 have hab:=qry a b;unfold qfK;rw[show IntKind.bits IntKind.u64=64 from rfl,jB,jB,BitVec.toNat_and,BitVec.toNat_not,BitVec.toNat_ofNat,BitVec.toNat_ofNat,Nat.mod_eq_of_lt ha,Nat.mod_eq_of_lt hb];exact qbm (Int.natCast_nonneg _) (by unfold anN at hab;omega)
theorem qfJ{a b:Nat}(ha:a<2^64)(hb:b<2^64)(i:Nat):(anN a b).testBit i=(a.testBit i&& !b.testBit i):=by
 unfold anN;rw[Nat.testBit_and,show 2^64-1-b=2^64-(b+1) by omega,Nat.testBit_two_pow_sub_succ hb]
 by_cases hi:i<64
 ·simp[hi]
 ·rw[Nat.testBit_lt_two_pow (Nat.lt_of_lt_of_le ha (Nat.pow_le_pow_right om om))];rfl
def qmR(n:Nat):Nat:=(qT n.testBit 64).length
theorem qDE(n:Nat)(h:List AObj)(hn:n<256):ACalls Tryz.prog 199 [.int .u64 (n:Int)] h (.int .i64 (qmR n)) h:=by
 refine acO qy1 ?_;simp (disch:=omega) only[qxk,go_sem]
 repeat' first
  |(apply qe;exact rvk;simp only[go_sem];apply qh)
  |with_reducible apply aiA
 all_goals try exact clz
 clear h;revert n;decide+kernel
def qbJ(names:List Str)(gs:List Gr)(set:List Int):Int:=if sgE names gs=0 then qai names.length set else 1
theorem qEW(names:List Str)(gs:List Gr)(set:List Int)(h:List AObj)(hz:Szs names gs)(hs:set.length≤1000000000):ACalls Tryz.prog 196 [strs names,qu gs,ql set] h (.int .i64 (qbJ names gs set)) h:=by
 have c59:=fun h=>sgP names gs h hz
 have c92:=fun h=>qDG set names.length h hs
 have zl: ∀g,valL g .len [strs names]= .int .i64 names.length:=fun _=>rfl
 have zo: ∀g,okL g .len [strs names]=True:=fun _=>eqt trivial
 unfold qbJ
 by_cases g:sgE names gs=0
 ·rw[ipo g];simp only[g]at c59;refine acO qr4 ?_;simp (disch:=omega) only[qtj,go_sem]
  repeat' first
   |((first|refine cA (c59 _) ?_ ?_|refine cA (c92 _) ?_ ?_);exact flk;simp (disch:=omega) only[zl,zo,go_sem])
   |(apply qe;exact rvk;simp only[go_sem];exact qk)
 ·rw[ine g];have k:(sgE names gs=0)=False:=eqf g;refine acO qr4 ?_;simp (disch:=omega) only[qtj,go_sem]
  repeat' first
   |(refine cA (c59 _) flk ?_;simp (disch:=omega) only[zl,zo,k,go_sem])
   |(apply qe;exact rvk;simp only[go_sem];exact qk)
theorem qf5{names:List Str}{gs:List Gr}(h:sgE names gs=0)(i:Nat):inB 64 (gs.getD i default).mem:=by
 have h:=qdB h
 by_cases hi:i<gs.length
 ·intro j hj
  have:=(qac (qf6 h hi)).1 j hj
  have:=h.n32
  omega
 ·rw[gdqA,List.getElem?_eq_none om];intro j hj;exact absurd hj (by simp[show (default:Gr).mem= []from rfl])
def qhO(gs:List Gr)(all:Nat)(i:Nat):Bool:=decide (anN (qaf (gs.getD i default).mem) all=0)
def qbL(gs:List Gr)(all:Nat):List Int:=qT (qhO gs all) gs.length
theorem qFf(gs:List Gr)(all:Nat)(h:List AObj)(hg:gs.length≤1000000)(hm: ∀i,inB 64 (gs.getD i default).mem)(hl: ∀i,(gs.getD i default).mem.length≤1000000000)(ha:all<2^64):ACalls Tryz.prog 197 [qu gs,.int .u64 (all:Int)] h (ql (qbL gs all)) h:=by
 unfold qbL;have zl: ∀g,valL g .len [qu gs]= .int .i64 gs.length:=fun _=>rfl
 have zo: ∀g,okL g .len [qu gs]=True:=fun _=>eqt trivial
 refine acO qyZ ?_;simp (disch:=omega) only[qxi,zl,zo,go_sem];refine qn (T:=fun i:Nat×Nat×AObj×AObj=>qI 27 [(1,.int .u64 (all:Int)),(5,.osl (h.length+1) i.2.1 1 0 (qT (qhO gs all) i.1).length),(8,qu gs),(9,.int .i64 gs.length),(10,.int .i64 i.1)])
  (H:=fun i=>h++ [.emp 1,zP i.2.1 3 (qp (qT (qhO gs all) i.1)),i.2.2.1,i.2.2.2,.emp 0])
  (inv:=fun i=>i.1≤gs.length∧qC [i.2.2.1] 0=true∧qC [i.2.2.2] 0=true) (m:=fun i=>gs.length-i.1) (0,1,.emp 0,.emp 0) ⟨nzl _,rfl,rfl⟩ (Wk.temps ?_) ?_
 ·(simp only[qT,List.range_zero,List.filter_nil,lnl,go_sem,qj,qd,qa,qi];try (repeat' first|(with_reducible apply aiA)|(apply qh;omega)|(apply qg;rfl)|exact qk))
 rintro⟨i,v,O2,O3⟩ ⟨i1,i2,i3⟩ K hK;simp only at i1 i2 i3 hK;have i2': ∀m,qC (O2::m) 0=true:=fun _=>i2
 have i3': ∀m,qC (O3::m) 0=true:=fun _=>i3
 have hst:=zH (qhO gs all) i;have hln:=qN (qhO gs all) i;obtain⟨L,hL⟩: ∃L,L=qT (qhO gs all) i:=⟨_,rfl⟩
 rw[←hL]at hst hln;have eL:=hL.symm;have eC:=qy L
 by_cases hi:i<gs.length
 ·have k1:((i:Int)<gs.length)=True:=eqt om;have c96:=fun h=>qBB (gs.getD i default).mem h (hl i) (hm i)
  have hlt:=qcR (hm i);have hB:qhO gs all i=decide (anN (qaf (gs.getD i default).mem) all=0):=rfl;obtain⟨gr,hgr⟩: ∃gr,gr=gs.getD i default:=⟨_,rfl⟩
  have egr:=hgr.symm;simp only[egr]at c96 hB;rw[egr]at hlt;have hd:=qgT hlt ha;obtain⟨q,hq⟩: ∃q,q=anN (qaf gr.mem) all:=⟨_,rfl⟩
  rw[←hq]at hd hB;have eTk:List.take L.length (qp L)=qp L:=ltl om
  by_cases g0:q=0
  ·have k2:((q:Int)=0)=True:=eqt om;rw[ipo (by rw[hB];exact dqt g0)]at hst;simp (disch:=omega) only[qu,grC,k1,i2',eL,egr,go_sem]
   repeat' first
    |(refine cA (c96 _) flk ?_;simp (disch:=omega) only[k2,i3',hd,eC,eTk,Nat.mul_one,go_sem])
    |with_reducible apply aiA
   all_goals try exact clz
   have eA:qp L++ [AV.int .i64 (i:Int)]=qp (qT (qhO gs all) (i+1)):=by rw[hst,qR];rfl
   rw[eA];refine hK _ _ (i+1,v+1,.mem (qr (some O2)+1) 167 (grC gr),.mem (qr (some O3)+1) 3 [.int .i64 (i:Int)]) ⟨hi,rfl,rfl⟩ (by simp only;omega) ?_;simp only[hst,lap,lco,lnl];refine Wk.temps ?_
   (simp only[go_sem,qj,qd,qa,qi];try (repeat' first|(with_reducible apply aiA)|(apply qh;omega)|(apply qg;rfl)|exact qk))
  ·have k2:((q:Int)=0)=False:=eqf om;rw[ine (by rw[hB];simpa using g0),lan]at hst;simp (disch:=omega) only[qu,grC,k1,i2',eL,egr,go_sem]
   repeat' first
    |(refine cA (c96 _) flk ?_;simp (disch:=omega) only[k2,hd,go_sem])
    |with_reducible apply aiA
   all_goals try exact clz
   refine hK _ _ (i+1,v,.mem (qr (some O2)+1) 167 (grC gr),O3) ⟨hi,rfl,i3⟩ (by simp only;omega) ?_;simp only[hst];refine Wk.temps ?_
   (simp only[go_sem,qj,qd,qa,qi];try (repeat' first|(with_reducible apply aiA)|(apply qh;omega)|(apply qg;rfl)|exact qk))
 ·obtain rfl:i=gs.length:=by omega
  have k1:((gs.length:Int)<gs.length)=False:=eqf om;rw[eL];simp (disch:=omega) only[k1,go_sem]
  repeat' first
   |(apply qb;exact rvk;simp only[go_sem])
  exact qaE (fun _=>rfl) rfl
def qo8(a b:List Int):Int:=qaZ (fun i=>qfV (a.getD i 0) (b.getD i 0)) 0 a.length
theorem qEe(a b:List Int)(h:List AObj)(hl:a.length=b.length)(ha:a.length≤1000000000):ACalls Tryz.prog 66 [ql a,ql b] h (.int .i64 (qo8 a b)) h:=by
 obtain⟨R,hR⟩: ∃R,R=qo8 a b:=⟨_,rfl⟩
 rw[←hR];unfold qo8 at hR;have z1: ∀g,valL g .len [ql a]= .int .i64 a.length:=fun _=>rfl
 have z2: ∀g,okL g .len [ql a]=True:=fun _=>eqt trivial
 have z3: ∀g,valL g .len [ql b]= .int .i64 a.length:=fun _=>by rw[hl];rfl
 have z4: ∀g,okL g .len [ql b]=True:=fun _=>eqt trivial
 refine acO qCk ?_;simp (disch:=omega) only[qDn,z1,z2,go_sem];refine qn (T:=fun i:Nat=>qI 36 [(0,ql a),(1,ql b),(9,ql a),(10,.int .i64 a.length),(11,.int .i64 i)]) (H:=fun _=>h) (inv:=fun i=>i≤a.length∧ ∀j,j<i→(fun i=>qfV (a.getD i 0) (b.getD i 0)) j=0) (m:=fun i=>a.length-i) 0 ⟨nzl _,fun j hj=>by omega⟩ (Wk.temps ?_) ?_
 ·(simp only[go_sem,qj,qd,qa,qi];try (repeat' first|(with_reducible apply aiA)|(apply qh;omega)|(apply qg;rfl)|exact qk))
 rintro i ⟨i1,i2⟩ K hK
 by_cases hi:i<a.length
 ·have k1:((i:Int)<a.length)=True:=eqt om;have k2:((a.length:Int)≤i)=False:=eqf om;have k3:((i:Int)<b.length)=True:=eqt om;have hE:=qO (f:=fun i=>qfV (a.getD i 0) (b.getD i 0)) hi i2;have c122:=fun h=>qEf (a.getD i 0) (b.getD i 0) h
  have k4:((b.length:Int)≤i)=False:=eqf om
  by_cases g:qfV (a.getD i 0) (b.getD i 0)=0
  ·simp only[g]at c122;simp (disch:=omega) only[ql,k1,k3,k4,go_sem]
   repeat' first
    |(refine cA (c122 _) flk ?_;simp (disch:=omega) only[go_sem])
    |with_reducible apply aiA
   all_goals try exact clz
   refine hK _ _ (i+1) ⟨hi,fun j hj=> ?_⟩ om (Wk.temps ?_)
   ·by_cases e:j=i
    ·subst e;exact g
    ·exact i2 j om
   ·(simp only[ql,go_sem,qj,qd,qa,qi];try (repeat' first|(with_reducible apply aiA)|(apply qh;omega)|(apply qg;rfl)|exact qk))
  ·have k5:(qfV (a.getD i 0) (b.getD i 0)=0)=False:=eqf g;rw[hR,hE g];simp (disch:=omega) only[ql,k1,k3,k4,go_sem]
   repeat' first
    |(refine cA (c122 _) flk ?_;simp (disch:=omega) only[k5,go_sem])
    |(apply qe;exact rvk;simp only[go_sem];exact qk)
    |with_reducible apply aiA
   all_goals try exact clz
 ·have k1:((i:Int)<a.length)=False:=eqf om;have hz:=qz (f:=fun i=>qfV (a.getD i 0) (b.getD i 0)) (n:=a.length) (fun j hj=>i2 j om);rw[hR,hz];have k2:((a.length:Int)<a.length)=False:=eqf om;simp (disch:=omega) only[z1,z2,z3,z4,k1,go_sem]
  repeat' first
   |(apply qe;exact rvk;simp only[go_sem];first|exact qk|apply qh)
   |with_reducible first|intro _|apply aiA
  all_goals try exact clz
end RC
end
