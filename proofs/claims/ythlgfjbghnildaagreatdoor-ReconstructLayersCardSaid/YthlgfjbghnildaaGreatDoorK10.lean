import Derived.Test.YthlgfjbghnildaaGreatDoorK9
import Derived.Test.YthlgfjbghnildaaGreatDoorK1
import Derived.Test.YthlgfjbghnildaaGreatDoorK3
import Derived.Test.YthlgfjbghnildaaGreatDoorK6
import Derived.Test.YthlgfjbghnildaaGreatDoorProg
set_option linter.all false
set_option linter.unusedSimpArgs false
set_option linter.unusedVariables false
set_option linter.unusedSectionVars false
set_option maxRecDepth 100000
section
open Go Go.Proofs AF HY LN
namespace RC
set_option maxHeartbeats 16000000
theorem qgJ (s:Str):(qbH s=true∧wE s=0)∨(qbH s=false∧wE s=11):=by
 unfold wE
 cases qbH s with
 |true=>exact .inl ⟨rfl,rfl⟩
 |false=>exact .inr ⟨rfl,rfl⟩
theorem qAk (names:List Str) (gs:List Gr) (t:List Str) (e:En) (h:List AObj) (hz:Szs names gs) (ht:TSz t) (he:ESz e) (hgm: ∀i,(gs.getD i default).mem.length≤1000) (hsg: ∀i,(e.vars.getD i default).sigla.length≤1000000) (hsp:e.sup.length≤1000000) (hp:ku SG h):
  qm Tryz.prog 50 [strs names,qu gs,strs t,.agg (enC e)] h (.int .i64 (kX names gs t e)) h:=by
 have c49:=fun h=>sgR names gs h hz
 have t1:=ht.n
 obtain ⟨R,hR⟩: ∃R,R=kX names gs t e:=⟨_,rfl⟩
 rw [←hR]
 unfold kX at hR
 obtain ⟨s,hs⟩: ∃s,s=sgE names gs:=⟨_,rfl⟩
 rw [←hs]at c49 hR
 by_cases g0:s≠0
 ·have k0:(s=0)=False:=eq_false g0
  rw [if_pos g0]at hR
  rw [hR]
  refine acO qrs ?_
  simp (disch:=omega) only [qxc,List.replicate,enC,go_sem]
  repeat' first
   |((first|refine cA (c49 _) ?_ ?_|refine cG (fun e=>c49 _) ?_ ?_|refine cU (fun _=>c49 _) ?_ ?_);(next=>exact flk);simp (disch:=omega) only [k0,go_sem])
   |((first|apply qc|apply qb);exact rvk;simp only [go_sem];first|exact VLe.refl _|apply qd|apply qa|apply qe|skip)
   |with_reducible first|refine And.intro ?_ ?_|intro _
  all_goals try exact clz
 have g0:s=0:=Classical.not_not.1 g0
 have k0:(s=0)=True:=eq_true g0
 rw [if_neg (fun hc=>hc g0)]at hR
 unfold strs at c49
 by_cases g1:4096<t.length
 ·have k1:((4096:Int)<t.length)=True:=eq_true (by omega)
  rw [if_pos g1]at hR
  rw [hR]
  refine acO qrs ?_
  simp (disch:=omega) only [qxc,List.replicate,enC,strs,go_sem]
  repeat' first
   |((first|refine cA (c49 _) ?_ ?_|refine cG (fun e=>c49 _) ?_ ?_|refine cU (fun _=>c49 _) ?_ ?_);(next=>exact flk);simp (disch:=omega) only [k0,k1,strs,go_sem])
   |((first|apply qc|apply qb);exact rvk;simp only [go_sem];first|exact VLe.refl _|apply qd|apply qa|apply qe|skip)
   |with_reducible first|refine And.intro ?_ ?_|intro _
  all_goals try exact clz
 have k1:((4096:Int)<t.length)=False:=eq_false (by omega)
 rw [if_neg g1]at hR
 refine acO qrs ?_
 simp (disch:=omega) only [qxc,List.replicate,enC,strs,qB,go_sem]
 repeat' first
  |((first|refine cA (c49 _) ?_ ?_|refine cG (fun e=>c49 _) ?_ ?_|refine cU (fun _=>c49 _) ?_ ?_);(next=>exact flk);simp (disch:=omega) only [k0,k1,strs,qB,go_sem])
  |((first|apply qc|apply qb);exact rvk;simp only [go_sem];first|exact VLe.refl _|apply qd|apply qa|apply qe|skip)
  |with_reducible first|refine And.intro ?_ ?_|intro _
 all_goals try exact clz
 obtain ⟨E1,hE1⟩: ∃E1,E1=AObj.mem 1 49 [.int .i64 e.layer,.int .i64 e.frm,.int .i64 e.to,.bool e.pos,strs e.sup,qB e.vars]:=⟨_,rfl⟩
 refine qn (T:=fun i:Nat=>qI 186 [(0,strs names),(1,qu gs),(2,strs t),(7,.op h.length 1 0),(9,.int .i64 i)])
  (H:=fun i=>h++ [.mem 1 49 [.int .i64 e.layer,.int .i64 e.frm,.int .i64 e.to,.bool e.pos,strs e.sup,qB e.vars],.emp 0])
  (inv:=fun i=>i≤t.length∧ ∀j,j<i→wE (t.getD j [])=0) (m:=fun i=>t.length-i) 0 ⟨Nat.zero_le _,fun j hj=>absurd hj (Nat.not_lt_zero j)⟩ (Wk.temps ?_) ?_
 ·(simp only [strs,qB,List.replicate,go_sem,qj,qh,qg,qi];try (repeat' first|(with_reducible refine And.intro ?_ ?_)|(apply qd;omega)|(apply qa;rfl)|exact VLe.refl _))
 rintro i ⟨i1,i2⟩ K hK
 by_cases hi:i<t.length
 ·have r1:((i:Int)<t.length)=True:=eq_true (by omega)
  have hE:=qP (f:=fun i=>wE (t.getD i [])) hi i2
  have c84:=fun l=>qql (t.getD i []) (h++l) (ht.s i) (hp.app l)
  have hw:=qgJ (t.getD i [])
  obtain ⟨x,hx⟩: ∃x,x=t.getD i []:=⟨_,rfl⟩
  have ex:=hx.symm
  simp only [ex]at hE c84 hw
  rcases hw with ⟨w1,w2⟩|⟨w1,w2⟩
  ·rw [w1]at c84
   simp (disch:=omega) only [List.replicate,strs,qB,r1,ex,go_sem]
   repeat' first
    |((first|refine cA (c84 _) ?_ ?_|refine cG (fun e=>c84 _) ?_ ?_|refine cU (fun _=>c84 _) ?_ ?_);(next=>exact flk);simp (disch:=omega) only [strs,qB,r1,ex,go_sem])
    |((first|apply qc|apply qb);exact rvk;simp only [go_sem];first|exact VLe.refl _|apply qd|apply qa|apply qe|skip)
    |with_reducible first|refine And.intro ?_ ?_|intro _
   all_goals try exact clz
   refine hK _ _ (i+1) ⟨hi,fun j hj=> ?_⟩ (by omega) (Wk.temps ?_)
   ·by_cases e':j=i
    ·subst e';rw [ex];exact w2
    ·exact i2 j (by omega)
   ·(simp only [strs,qB,List.replicate,go_sem,qj,qh,qg,qi];try (repeat' first|(with_reducible refine And.intro ?_ ?_)|(apply qd;omega)|(apply qa;rfl)|exact VLe.refl _))
  ·rw [w1]at c84
   have hV:R=11:=by
    rw [hR,if_pos (by unfold jO;rw [hE (by rw [w2];decide),w2];decide)]
   rw [hV]
   simp (disch:=omega) only [List.replicate,strs,qB,r1,ex,go_sem]
   repeat' first
    |((first|refine cA (c84 _) ?_ ?_|refine cG (fun e=>c84 _) ?_ ?_|refine cU (fun _=>c84 _) ?_ ?_);(next=>exact flk);simp (disch:=omega) only [strs,qB,r1,ex,go_sem])
    |((first|apply qc|apply qb);exact rvk;simp only [go_sem];first|exact VLe.refl _|apply qd|apply qa|apply qe|skip)
    |with_reducible first|refine And.intro ?_ ?_|intro _
   all_goals try exact clz
 have r1:((i:Int)<t.length)=False:=eq_false (by omega)
 have hw0:jO t=0:=qC (f:=fun i=>wE (t.getD i [])) (fun j hj=>i2 j (by omega))
 rw [if_neg (fun hc=>hc hw0)]at hR
 by_cases g3:qin t e
 ·rw [if_pos g3]at hR
  rw [hR]
  by_cases a1:e.layer<0
  ·have q1:(e.layer<0)=True:=eq_true a1
   simp (disch:=omega) only [List.replicate,strs,qB,r1,go_sem]
   repeat' first
    |((first|apply qc|apply qb);exact rvk;simp only [go_sem];first|exact VLe.refl _|apply qd|apply qa|apply qe|skip)
    |with_reducible first|refine And.intro ?_ ?_|intro _
   all_goals try exact clz
  have q1:(e.layer<0)=False:=eq_false a1
  by_cases a2:15<e.layer
  ·have q2:(15<e.layer)=True:=eq_true a2
   simp (disch:=omega) only [List.replicate,strs,qB,r1,go_sem]
   repeat' first
    |((first|apply qc|apply qb);exact rvk;simp only [go_sem];first|exact VLe.refl _|apply qd|apply qa|apply qe|skip)
    |with_reducible first|refine And.intro ?_ ?_|intro _
   all_goals try exact clz
  have q2:(15<e.layer)=False:=eq_false a2
  by_cases a3:e.frm<0
  ·have q3:(e.frm<0)=True:=eq_true a3
   simp (disch:=omega) only [List.replicate,strs,qB,r1,go_sem]
   repeat' first
    |((first|apply qc|apply qb);exact rvk;simp only [go_sem];first|exact VLe.refl _|apply qd|apply qa|apply qe|skip)
    |with_reducible first|refine And.intro ?_ ?_|intro _
   all_goals try exact clz
  have q3:(e.frm<0)=False:=eq_false a3
  by_cases a4:e.to<e.frm
  ·have q4:(e.to<e.frm)=True:=eq_true a4
   simp (disch:=omega) only [List.replicate,strs,qB,r1,go_sem]
   repeat' first
    |((first|apply qc|apply qb);exact rvk;simp only [go_sem];first|exact VLe.refl _|apply qd|apply qa|apply qe|skip)
    |with_reducible first|refine And.intro ?_ ?_|intro _
   all_goals try exact clz
  have q4:(e.to<e.frm)=False:=eq_false a4
  have q5':(t.length:Int)<e.to:=by unfold qin at g3;omega
  have q5:((t.length:Int)<e.to)=True:=eq_true q5'
  simp (disch:=omega) only [List.replicate,strs,qB,r1,go_sem]
  repeat' first
   |((first|apply qc|apply qb);exact rvk;simp only [go_sem];first|exact VLe.refl _|apply qd|apply qa|apply qe|skip)
   |with_reducible first|refine And.intro ?_ ?_|intro _
  all_goals try exact clz
  all_goals (exfalso;omega)
 rw [if_neg g3]at hR
 unfold qin at g3
 have q1:(e.layer<0)=False:=eq_false (by omega)
 have q2:(15<e.layer)=False:=eq_false (by omega)
 have q3:(e.frm<0)=False:=eq_false (by omega)
 have q4:(e.to<e.frm)=False:=eq_false (by omega)
 have q5:((t.length:Int)<e.to)=False:=eq_false (by omega)
 by_cases g4:0<e.sup.length∧e.pos=false
 ·have q6:((0:Int)<e.sup.length)=True:=eq_true (by omega)
  have q7:=g4.2
  rw [if_pos g4]at hR
  rw [hR]
  simp (disch:=omega) only [List.replicate,strs,qB,r1,q7,go_sem]
  repeat' first
   |((first|apply qc|apply qb);exact rvk;simp only [go_sem];first|exact VLe.refl _|apply qd|apply qa|apply qe|skip)
   |with_reducible first|refine And.intro ?_ ?_|intro _
  all_goals try exact clz
  all_goals (exfalso;omega)
 rw [if_neg g4]at hR
 by_cases g5:e.vars.length=0
 ·have q8:((e.vars.length:Int)=0)=True:=eq_true (by omega)
  rw [if_pos g5]at hR
  rw [hR]
  by_cases g6:0<e.sup.length
  ·have q6:((0:Int)<e.sup.length)=True:=eq_true (by omega)
   have q7:e.pos=true:=by
    cases hq:e.pos with
    |true=>rfl
    |false=>exact absurd ⟨g6,hq⟩ g4
   simp (disch:=omega) only [List.replicate,strs,qB,r1,q7,go_sem]
   repeat' first
    |((first|apply qc|apply qb);exact rvk;simp only [go_sem];first|exact VLe.refl _|apply qd|apply qa|apply qe|skip)
    |with_reducible first|refine And.intro ?_ ?_|intro _
   all_goals try exact clz
   all_goals (exfalso;omega)
  ·have q6:((0:Int)<e.sup.length)=False:=eq_false (by omega)
   simp (disch:=omega) only [List.replicate,strs,qB,r1,go_sem]
   repeat' first
    |((first|apply qc|apply qb);exact rvk;simp only [go_sem];first|exact VLe.refl _|apply qd|apply qa|apply qe|skip)
    |with_reducible first|refine And.intro ?_ ?_|intro _
   all_goals try exact clz
   all_goals (exfalso;omega)
 have q8:((e.vars.length:Int)=0)=False:=eq_false (by omega)
 rw [if_neg g5]at hR
 simp (disch:=omega) only [List.replicate,strs,qB,r1,go_sem]
 repeat' first
  |((first|apply qc|apply qb);exact rvk;simp only [go_sem];first|exact VLe.refl _|apply qd|apply qa|apply qe|skip)
  |with_reducible first|refine And.intro ?_ ?_|intro _
 all_goals try exact clz
 ·rename_i hx;exact absurd ⟨by omega,hx.2⟩ g4
 obtain ⟨fr,hfr⟩: ∃fr:Nat,e.frm=fr:=⟨e.frm.toNat,by omega⟩
 obtain ⟨tt,htt⟩: ∃tt:Nat,e.to=tt:=⟨e.to.toNat,by omega⟩
 refine qn (T:=fun i:Nat×Nat=>qI 186 [(0,strs names),(1,qu gs),(2,strs t),(7,.op h.length 1 0),(10,.int .i64 i.1)])
  (H:=fun i=>h++ [.mem 1 49 [.int .i64 e.layer,.int .i64 e.frm,.int .i64 e.to,.bool e.pos,strs e.sup,qB e.vars],.emp i.2])
  (inv:=fun i=>i.1≤e.vars.length∧ ∀j,j<i.1→qbG t e j=0) (m:=fun i=>e.vars.length-i.1) (0,0) ⟨Nat.zero_le _,fun j hj=>absurd hj (Nat.not_lt_zero j)⟩ (Wk.temps ?_) ?_
 ·(simp only [strs,qB,List.replicate,go_sem,qj,qh,qg,qi];try (repeat' first|(with_reducible refine And.intro ?_ ?_)|(apply qd;omega)|(apply qa;rfl)|exact VLe.refl _))
 clear hK
 rintro ⟨n,v⟩ ⟨n1,n2⟩ K1 hK1
 simp only at n1 n2 hK1
 have z2:=he.vs
 by_cases hn:n<e.vars.length
 ·have r2:((n:Int)<e.vars.length)=True:=eq_true (by omega)
  have r3:(0≤(fr:Int))=True:=eq_true (by omega)
  have r4:((fr:Int)≤tt)=True:=eq_true (by omega)
  have r5:((tt:Int)≤t.length)=True:=eq_true (by omega)
  have hE:=qP (f:=qbG t e) hn n2
  have hv:qbG t e n=if jO (e.vars.getD n default).words≠0 then 11 else if (e.vars.getD n default).words=j8 t e.frm.toNat e.to.toNat then 9 else
   if zS (fun j=>decide ((e.vars.getD n default).words=(e.vars.getD j default).words)) n=true then 7 else if (e.vars.getD n default).sigla.length=0 then 5 else 0:=rfl
  have zw:=he.w n
  have zv:=fun j=>(he.w j).n
  obtain ⟨x,hx⟩: ∃x,x=e.vars.getD n default:=⟨_,rfl⟩
  have ex:=hx.symm
  simp only [ex]at hv zw
  rw [hfr,htt,Int.toNat_natCast,Int.toNat_natCast]at hv
  have zn:=zw.n
  simp (disch:=omega) only [List.replicate,strs,qB,vaC,r2,ex,go_sem]
  repeat' first
   |((first|apply qc|apply qb);exact rvk;simp only [go_sem];first|exact VLe.refl _|apply qd|apply qa|apply qe|skip)
   |with_reducible first|refine And.intro ?_ ?_|intro _
  all_goals try exact clz
  refine qn (T:=fun i:Nat=>qI 186 [(0,strs names),(1,qu gs),(2,strs t),(7,.op h.length 1 0),(10,.int .i64 n),(11,.op (h.length+1) (v+1) 0),(12,.int .i64 i)])
   (H:=fun _=>h++ [.mem 1 49 [.int .i64 e.layer,.int .i64 e.frm,.int .i64 e.to,.bool e.pos,strs e.sup,qB e.vars],.mem (v+1) 51 [strs x.words,strs x.sigla]])
   (inv:=fun i=>i≤x.words.length∧ ∀j,j<i→wE (x.words.getD j [])=0) (m:=fun i=>x.words.length-i) 0 ⟨Nat.zero_le _,fun j hj=>absurd hj (Nat.not_lt_zero j)⟩ (Wk.temps ?_) ?_
  ·(simp only [strs,qB,List.replicate,go_sem,qj,qh,qg,qi];try (repeat' first|(with_reducible refine And.intro ?_ ?_)|(apply qd;omega)|(apply qa;rfl)|exact VLe.refl _))
  rintro k ⟨m1,m2⟩ K2 hK2
  by_cases hk:k<x.words.length
  ·have s1:((k:Int)<x.words.length)=True:=eq_true (by omega)
   have hE2:=qP (f:=fun i=>wE (x.words.getD i [])) hk m2
   have c84:=fun l=>qql (x.words.getD k []) (h++l) (zw.s k) (hp.app l)
   have hw:=qgJ (x.words.getD k [])
   obtain ⟨y,hy⟩: ∃y,y=x.words.getD k []:=⟨_,rfl⟩
   have ey:=hy.symm
   simp only [ey]at hE2 c84 hw
   rcases hw with ⟨w1,w2⟩|⟨w1,w2⟩
   ·rw [w1]at c84
    simp (disch:=omega) only [List.replicate,strs,qB,vaC,s1,ey,go_sem]
    repeat' first
     |((first|refine cA (c84 _) ?_ ?_|refine cG (fun e=>c84 _) ?_ ?_|refine cU (fun _=>c84 _) ?_ ?_);(next=>exact flk);simp (disch:=omega) only [strs,qB,vaC,s1,ey,go_sem])
     |((first|apply qc|apply qb);exact rvk;simp only [go_sem];first|exact VLe.refl _|apply qd|apply qa|apply qe|skip)
     |with_reducible first|refine And.intro ?_ ?_|intro _
    all_goals try exact clz
    refine hK2 _ _ (k+1) ⟨hk,fun j hj=> ?_⟩ (by omega) (Wk.temps ?_)
    ·by_cases e':j=k
     ·subst e';rw [ey];exact w2
     ·exact m2 j (by omega)
    ·(simp only [strs,qB,List.replicate,go_sem,qj,qh,qg,qi];try (repeat' first|(with_reducible refine And.intro ?_ ?_)|(apply qd;omega)|(apply qa;rfl)|exact VLe.refl _))
   ·rw [w1]at c84
    rw [if_pos (by unfold jO;rw [hE2 (by rw [w2];decide),w2];decide)]at hv
    have hE:=hE (by rw [hv];decide)
    rw [hE,hv,if_pos (by decide)]at hR
    rw [hR]
    simp (disch:=omega) only [List.replicate,strs,qB,vaC,s1,ey,go_sem]
    repeat' first
     |((first|refine cA (c84 _) ?_ ?_|refine cG (fun e=>c84 _) ?_ ?_|refine cU (fun _=>c84 _) ?_ ?_);(next=>exact flk);simp (disch:=omega) only [strs,qB,vaC,s1,ey,go_sem])
     |((first|apply qc|apply qb);exact rvk;simp only [go_sem];first|exact VLe.refl _|apply qd|apply qa|apply qe|skip)
     |with_reducible first|refine And.intro ?_ ?_|intro _
    all_goals try exact clz
  have s1:((k:Int)<x.words.length)=False:=eq_false (by omega)
  have hw0:jO x.words=0:=qC (f:=fun i=>wE (x.words.getD i [])) (fun j hj=>m2 j (by omega))
  rw [if_neg (fun hc=>hc hw0)]at hv
  have c85:=fun h=>smw x.words (tt-fr) (fun j=>t.getD (fr+j) []) h zw.n (by omega)
  rw [qgw (by omega) (by omega)]at c85
  unfold strs at c85
  by_cases a2:x.words=j8 t fr tt
  ·rw [decide_eq_true a2]at c85
   rw [if_pos a2]at hv
   have hE:=hE (by rw [hv];decide)
   rw [hE,hv,if_pos (by decide)]at hR
   rw [hR]
   simp (disch:=omega) only [List.replicate,strs,qB,vaC,s1,hfr,htt,go_sem]
   repeat' first
    |((first|refine cA (c85 _) ?_ ?_|refine cG (fun e=>c85 _) ?_ ?_|refine cU (fun _=>c85 _) ?_ ?_);(next=>exact flk);simp (disch:=omega) only [strs,qB,vaC,s1,hfr,htt,r3,r4,r5,Nat.zero_add,go_sem])
    |((first|apply qc|apply qb);exact rvk;simp only [go_sem];first|exact VLe.refl _|apply qd|apply qa|apply qe|skip)
    |with_reducible first|refine And.intro ?_ ?_|intro _
   all_goals try exact clz
  rw [decide_eq_false a2]at c85
  rw [if_neg a2]at hv
  simp (disch:=omega) only [List.replicate,strs,qB,vaC,s1,hfr,htt,go_sem]
  repeat' first
   |((first|refine cA (c85 _) ?_ ?_|refine cG (fun e=>c85 _) ?_ ?_|refine cU (fun _=>c85 _) ?_ ?_);(next=>exact flk);simp (disch:=omega) only [strs,qB,vaC,s1,hfr,htt,r3,r4,r5,Nat.zero_add,go_sem])
   |((first|apply qc|apply qb);exact rvk;simp only [go_sem];first|exact VLe.refl _|apply qd|apply qa|apply qe|skip)
   |with_reducible first|refine And.intro ?_ ?_|intro _
  all_goals try exact clz
  simp only [hfr,htt]at hK1
  refine qn (T:=fun i:Nat=>qI 186 [(0,strs names),(1,qu gs),(2,strs t),(7,.op h.length 1 0),(10,.int .i64 n),(11,.op (h.length+1) (v+1) 0),(13,.int .i64 i)])
   (H:=fun _=>h++ [.mem 1 49 [.int .i64 e.layer,.int .i64 fr,.int .i64 tt,.bool e.pos,strs e.sup,qB e.vars],.mem (v+1) 51 [strs x.words,strs x.sigla]])
   (inv:=fun i=>i≤n∧ ∀j,j<i→decide (x.words=(e.vars.getD j default).words)=false) (m:=fun i=>n-i) 0 ⟨Nat.zero_le _,fun j hj=>absurd hj (Nat.not_lt_zero j)⟩ (Wk.temps ?_) ?_
  ·(simp only [strs,qB,List.replicate,go_sem,qj,qh,qg,qi];try (repeat' first|(with_reducible refine And.intro ?_ ?_)|(apply qd;omega)|(apply qa;rfl)|exact VLe.refl _))
  clear hK2
  rintro l ⟨l1,l2⟩ K3 hK3
  by_cases hl:l<n
  ·have s2:((l:Int)<n)=True:=eq_true (by omega)
   have s3:((l:Int)<e.vars.length)=True:=eq_true (by omega)
   have c86:=fun h=>qxj x.words (e.vars.getD l default).words h zw.n (zv l)
   obtain ⟨y,hy⟩: ∃y,y=e.vars.getD l default:=⟨_,rfl⟩
   have ey:=hy.symm
   simp only [ey]at c86
   unfold strs at c86
   by_cases a3:x.words=y.words
   ·rw [decide_eq_true a3]at c86
    rw [if_pos (qW.2 ⟨l,hl,by rw [ey];exact decide_eq_true a3⟩)]at hv
    have hE:=hE (by rw [hv];decide)
    rw [hE,hv,if_pos (by decide)]at hR
    rw [hR]
    simp (disch:=omega) only [List.replicate,strs,qB,vaC,s2,s3,ey,go_sem]
    repeat' first
     |((first|refine cA (c86 _) ?_ ?_|refine cG (fun e=>c86 _) ?_ ?_|refine cU (fun _=>c86 _) ?_ ?_);(next=>exact flk);simp (disch:=omega) only [strs,qB,vaC,s2,s3,ey,go_sem])
     |((first|apply qc|apply qb);exact rvk;simp only [go_sem];first|exact VLe.refl _|apply qd|apply qa|apply qe|skip)
     |with_reducible first|refine And.intro ?_ ?_|intro _
    all_goals try exact clz
   ·rw [decide_eq_false a3]at c86
    simp (disch:=omega) only [List.replicate,strs,qB,vaC,s2,s3,ey,go_sem]
    repeat' first
     |((first|refine cA (c86 _) ?_ ?_|refine cG (fun e=>c86 _) ?_ ?_|refine cU (fun _=>c86 _) ?_ ?_);(next=>exact flk);simp (disch:=omega) only [strs,qB,vaC,s2,s3,ey,go_sem])
     |((first|apply qc|apply qb);exact rvk;simp only [go_sem];first|exact VLe.refl _|apply qd|apply qa|apply qe|skip)
     |with_reducible first|refine And.intro ?_ ?_|intro _
    all_goals try exact clz
    refine hK3 _ _ (l+1) ⟨hl,fun j hj=> ?_⟩ (by omega) (Wk.temps ?_)
    ·by_cases e':j=l
     ·subst e';rw [ey];exact decide_eq_false a3
     ·exact l2 j (by omega)
    ·(simp only [strs,qB,List.replicate,go_sem,qj,qh,qg,qi];try (repeat' first|(with_reducible refine And.intro ?_ ?_)|(apply qd;omega)|(apply qa;rfl)|exact VLe.refl _))
  have s2:((l:Int)<n)=False:=eq_false (by omega)
  rw [if_neg (by rw [qD.2 fun j hj=>l2 j (by omega)];simp)]at hv
  by_cases a4:x.sigla.length=0
  ·have p4:((x.sigla.length:Int)=0)=True:=eq_true (by omega)
   rw [if_pos a4]at hv
   have hE:=hE (by rw [hv];decide)
   rw [hE,hv,if_pos (by decide)]at hR
   rw [hR]
   simp (disch:=omega) only [List.replicate,strs,qB,vaC,s2,go_sem]
   repeat' first
    |((first|apply qc|apply qb);exact rvk;simp only [go_sem];first|exact VLe.refl _|apply qd|apply qa|apply qe|skip)
    |with_reducible first|refine And.intro ?_ ?_|intro _
   all_goals try exact clz
  ·have p4:((x.sigla.length:Int)=0)=False:=eq_false (by omega)
   rw [if_neg a4]at hv
   simp (disch:=omega) only [List.replicate,strs,qB,vaC,s2,go_sem]
   repeat' first
    |((first|apply qc|apply qb);exact rvk;simp only [go_sem];first|exact VLe.refl _|apply qd|apply qa|apply qe|skip)
    |with_reducible first|refine And.intro ?_ ?_|intro _
   all_goals try exact clz
   refine hK1 _ _ (n+1,v+1+1) ⟨hn,fun j hj=> ?_⟩ (by simp only;omega) (Wk.trans Wk.kill1 (Wk.temps ?_))
   ·by_cases e':j=n
    ·subst e';exact hv
    ·exact n2 j (by simp only at hj;omega)
   ·(simp only [strs,qB,List.replicate,go_sem,qj,qh,qg,qi];try (repeat' first|(with_reducible refine And.intro ?_ ?_)|(apply qd;omega)|(apply qa;rfl)|exact VLe.refl _))
 have r2:((n:Int)<e.vars.length)=False:=eq_false (by omega)
 rw [if_neg (fun hc=>hc (qC (f:=qbG t e) (fun j hj=>n2 j (by omega))))]at hR
 have c28:=fun h=>qnv names gs e.sup h hz hsp hgm
 obtain ⟨y,hy⟩: ∃y,y=ji names gs e.sup:=⟨_,rfl⟩
 rw [←hy]at hR c28
 by_cases b1:y≠0
 ·have p1:(y=0)=False:=eq_false b1
  rw [if_pos b1]at hR
  rw [hR]
  unfold strs qu ql at c28
  simp (disch:=omega) only [List.replicate,strs,qu,qB,r2,go_sem]
  repeat' first
   |((first|refine cA (c28 _) ?_ ?_|refine cG (fun e=>c28 _) ?_ ?_|refine cU (fun _=>c28 _) ?_ ?_);(next=>exact flk);simp (disch:=omega) only [strs,qu,qB,r2,p1,go_sem])
   |((first|apply qc|apply qb);exact rvk;simp only [go_sem];first|exact VLe.refl _|apply qd|apply qa|apply qe|skip)
   |with_reducible first|refine And.intro ?_ ?_|intro _
  all_goals try exact clz
 have b1:y=0:=Classical.not_not.1 b1
 have p1:(y=0)=True:=eq_true b1
 rw [if_neg (fun hc=>hc b1)]at hR
 unfold strs qu ql at c28
 simp (disch:=omega) only [List.replicate,strs,qu,qB,r2,go_sem]
 repeat' first
  |((first|refine cA (c28 _) ?_ ?_|refine cG (fun e=>c28 _) ?_ ?_|refine cU (fun _=>c28 _) ?_ ?_);(next=>exact flk);simp (disch:=omega) only [strs,qu,qB,r2,p1,go_sem])
  |((first|apply qc|apply qb);exact rvk;simp only [go_sem];first|exact VLe.refl _|apply qd|apply qa|apply qe|skip)
  |with_reducible first|refine And.intro ?_ ?_|intro _
 all_goals try exact clz
 have a0:(zZ names gs e 0).1=zg names gs e.sup:=rfl
 have a1:(zZ names gs e 0).2=false:=rfl
 refine qn (T:=fun i:Nat=>qI 186 [(0,strs names),(1,qu gs),(7,.op h.length 1 0),(14,ql (zZ names gs e i).1),(16,.bool (zZ names gs e i).2),(17,.int .i64 i)])
  (H:=fun i=>h++ [.mem 1 49 [.int .i64 e.layer,.int .i64 e.frm,.int .i64 e.to,.bool e.pos,strs e.sup,qB e.vars],.emp v])
  (inv:=fun i=>i≤e.vars.length∧ ∀j,j<i→ji names gs (e.vars.getD j default).sigla=0) (m:=fun i=>e.vars.length-i) 0 ⟨Nat.zero_le _,fun j hj=>absurd hj (Nat.not_lt_zero j)⟩ (Wk.temps ?_) ?_
 ·rw [a0,a1]
  (simp only [strs,qu,qB,ql,List.replicate,go_sem,qj,qh,qg,qi];try (repeat' first|(with_reducible refine And.intro ?_ ?_)|(apply qd;omega)|(apply qa;rfl)|exact VLe.refl _))
 clear hK1
 rintro m ⟨m1,m2⟩ K2 hK2
 obtain ⟨sa1,sa2⟩:=qeL names gs e m
 have hac:=zW names gs e m
 obtain ⟨A,hA⟩: ∃A,A=(zZ names gs e m).1:=⟨_,rfl⟩
 obtain ⟨B,hB⟩: ∃B,B=(zZ names gs e m).2:=⟨_,rfl⟩
 have eA:=hA.symm
 have eB:=hB.symm
 rw [eA]at sa1 sa2
 rw [eA,eB]at hac
 by_cases hm:m<e.vars.length
 ·have s1:((m:Int)<e.vars.length)=True:=eq_true (by omega)
  have hE:=qP (f:=fun i=>ji names gs (e.vars.getD i default).sigla) hm m2
  have c28b:=fun h=>qnv names gs (e.vars.getD m default).sigla h hz (hsg m) hgm
  have ho:=kO names gs (e.vars.getD m default).sigla
  obtain ⟨x,hx⟩: ∃x,x=e.vars.getD m default:=⟨_,rfl⟩
  have ex:=hx.symm
  simp only [ex]at hE c28b hac ho
  obtain ⟨q,hq⟩: ∃q,q=ji names gs x.sigla:=⟨_,rfl⟩
  obtain ⟨O,hO⟩: ∃O,O=zg names gs x.sigla:=⟨_,rfl⟩
  rw [←hq]at hE c28b
  rw [←hO]at c28b hac ho
  obtain ⟨ho1,ho2⟩:=ho
  have c70:=fun h=>qzS A O h (by omega) (by omega) sa1 ho1
  have c71:=fun h=>qz5 A O h (by omega) (by omega) sa1 ho1
  have hfp:=qjY A O
  obtain ⟨F,hF⟩: ∃F,F=qe5 A O A.length:=⟨_,rfl⟩
  obtain ⟨U,hU⟩: ∃U,U=qY (fun k=>decide ((k:Int)∈A)||decide ((k:Int)∈O)) 64:=⟨_,rfl⟩
  rw [←hF]at c70 hfp
  rw [←hU]at c71 hac
  unfold strs qu ql at c28b
  unfold ql at c70 c71
  by_cases b2:q≠0
  ·have p2:(q=0)=False:=eq_false b2
   rw [hE b2,if_pos b2]at hR
   rw [hR]
   simp (disch:=omega) only [List.replicate,strs,qu,qB,vaC,ql,s1,ex,eA,eB,go_sem]
   repeat' first
    |((first|refine cA (c28b _) ?_ ?_|refine cG (fun e=>c28b _) ?_ ?_|refine cU (fun _=>c28b _) ?_ ?_);(next=>exact flk);simp (disch:=omega) only [strs,qu,qB,vaC,ql,s1,ex,eA,eB,p2,go_sem])
    |((first|apply qc|apply qb);exact rvk;simp only [go_sem];first|exact VLe.refl _|apply qd|apply qa|apply qe|skip)
    |with_reducible first|refine And.intro ?_ ?_|intro _
   all_goals try exact clz
  ·have b2:q=0:=Classical.not_not.1 b2
   have p2:(q=0)=True:=eq_true b2
   have kF:((0:Int)<F.length)=(A.any (fun x=>decide (x∈O))=true):=by
    rw [←hfp];simp
   obtain ⟨G,hG⟩: ∃G,G=A.any fun x=>decide (x∈O):=⟨_,rfl⟩
   rw [←hG]at kF hac
   have fin: ∀B',B'=(B||G)→(zZ names gs e (m+1)).1=U∧(zZ names gs e (m+1)).2=B':=fun B' hb=>by rw [hac,hb];exact ⟨rfl,rfl⟩
   have hi2: ∀j,j<m+1→ji names gs (e.vars.getD j default).sigla=0:=fun j hj=>by
    by_cases e':j=m
    ·subst e';rw [ex,←hq];exact b2
    ·exact m2 j (by omega)
   cases B with
   |true=>
    obtain ⟨f1,f2⟩:=fin true rfl
    simp (disch:=omega) only [List.replicate,strs,qu,qB,vaC,ql,s1,ex,eA,eB,go_sem]
    repeat' first
     |((first|refine cA (c28b _) ?_ ?_|refine cG (fun e=>c28b _) ?_ ?_|refine cA (c70 _) ?_ ?_|refine cG (fun e=>c70 _) ?_ ?_|refine cA (c71 _) ?_ ?_|refine cG (fun e=>c71 _) ?_ ?_|refine cU (fun _=>c28b _) ?_ ?_|refine cU (fun _=>c70 _) ?_ ?_|refine cU (fun _=>c71 _) ?_ ?_);(next=>exact flk);simp (disch:=omega) only [strs,qu,qB,vaC,ql,s1,ex,eA,eB,p2,go_sem])
     |((first|apply qc|apply qb);exact rvk;simp only [go_sem];first|exact VLe.refl _|apply qd|apply qa|apply qe|skip)
     |with_reducible first|refine And.intro ?_ ?_|intro _
    all_goals try exact clz
    refine hK2 _ _ (m+1) ⟨hm,hi2⟩ (by omega) (Wk.temps ?_)
    rw [f1,f2]
    (simp only [strs,qu,qB,ql,List.replicate,go_sem,qj,qh,qg,qi];try (repeat' first|(with_reducible refine And.intro ?_ ?_)|(apply qd;omega)|(apply qa;rfl)|exact VLe.refl _))
   |false=>
    cases G with
    |true=>
     obtain ⟨f1,f2⟩:=fin true rfl
     have kF:((0:Int)<F.length)=True:=by rw [kF];simp
     simp (disch:=omega) only [List.replicate,strs,qu,qB,vaC,ql,s1,ex,eA,eB,go_sem]
     repeat' first
      |((first|refine cA (c28b _) ?_ ?_|refine cG (fun e=>c28b _) ?_ ?_|refine cA (c70 _) ?_ ?_|refine cG (fun e=>c70 _) ?_ ?_|refine cA (c71 _) ?_ ?_|refine cG (fun e=>c71 _) ?_ ?_|refine cU (fun _=>c28b _) ?_ ?_|refine cU (fun _=>c70 _) ?_ ?_|refine cU (fun _=>c71 _) ?_ ?_);(next=>exact flk);simp (disch:=omega) only [strs,qu,qB,vaC,ql,s1,ex,eA,eB,p2,kF,go_sem])
      |((first|apply qc|apply qb);exact rvk;simp only [go_sem];first|exact VLe.refl _|apply qd|apply qa|apply qe|skip)
      |with_reducible first|refine And.intro ?_ ?_|intro _
     all_goals try exact clz
     refine hK2 _ _ (m+1) ⟨hm,hi2⟩ (by omega) (Wk.temps ?_)
     rw [f1,f2]
     (simp only [strs,qu,qB,ql,List.replicate,go_sem,qj,qh,qg,qi];try (repeat' first|(with_reducible refine And.intro ?_ ?_)|(apply qd;omega)|(apply qa;rfl)|exact VLe.refl _))
    |false=>
     obtain ⟨f1,f2⟩:=fin false rfl
     have kF:((0:Int)<F.length)=False:=by rw [kF];simp
     simp (disch:=omega) only [List.replicate,strs,qu,qB,vaC,ql,s1,ex,eA,eB,go_sem]
     repeat' first
      |((first|refine cA (c28b _) ?_ ?_|refine cG (fun e=>c28b _) ?_ ?_|refine cA (c70 _) ?_ ?_|refine cG (fun e=>c70 _) ?_ ?_|refine cA (c71 _) ?_ ?_|refine cG (fun e=>c71 _) ?_ ?_|refine cU (fun _=>c28b _) ?_ ?_|refine cU (fun _=>c70 _) ?_ ?_|refine cU (fun _=>c71 _) ?_ ?_);(next=>exact flk);simp (disch:=omega) only [strs,qu,qB,vaC,ql,s1,ex,eA,eB,p2,kF,go_sem])
      |((first|apply qc|apply qb);exact rvk;simp only [go_sem];first|exact VLe.refl _|apply qd|apply qa|apply qe|skip)
      |with_reducible first|refine And.intro ?_ ?_|intro _
     all_goals try exact clz
     refine hK2 _ _ (m+1) ⟨hm,hi2⟩ (by omega) (Wk.temps ?_)
     rw [f1,f2]
     (simp only [strs,qu,qB,ql,List.replicate,go_sem,qj,qh,qg,qi];try (repeat' first|(with_reducible refine And.intro ?_ ?_)|(apply qd;omega)|(apply qa;rfl)|exact VLe.refl _))
 have s1:((m:Int)<e.vars.length)=False:=eq_false (by omega)
 obtain rfl:m=e.vars.length:=by omega
 rw [if_neg (fun hc=>hc (qC (f:=fun i=>ji names gs (e.vars.getD i default).sigla) (fun j hj=>m2 j hj)))]at hR
 rw [jQ,eB]at hR
 cases B with
 |true=>
  rw [if_pos rfl]at hR
  rw [hR]
  simp (disch:=omega) only [List.replicate,strs,qu,qB,ql,s1,eB,go_sem]
  repeat' first
   |((first|apply qc|apply qb);exact rvk;simp only [go_sem];first|exact VLe.refl _|apply qd|apply qa|apply qe|skip)
   |with_reducible first|refine And.intro ?_ ?_|intro _
  all_goals try exact clz
 |false=>
  rw [if_neg (by simp)]at hR
  rw [hR]
  simp (disch:=omega) only [List.replicate,strs,qu,qB,ql,s1,eB,go_sem]
  repeat' first
   |((first|apply qc|apply qb);exact rvk;simp only [go_sem];first|exact VLe.refl _|apply qd|apply qa|apply qe|skip)
   |with_reducible first|refine And.intro ?_ ?_|intro _
  all_goals try exact clz
end RC
end
section
open Go Go.Proofs AF HY LN
namespace RC
set_option maxHeartbeats 8000000
def inV (names:List Str) (gs:List Gr) (e:En) (src:Int) (i:Nat):Bool:=decide (src∈zg names gs (e.vars.getD i default).sigla)
def vIx (names:List Str) (gs:List Gr) (e:En) (src:Int):Int:=qbB (inV names gs e src) e.vars.length 0
def qaq (a b:En):Bool:=decide (a.frm<b.frm)||decide (a.frm=b.frm)&&decide (a.to<b.to)
theorem qAd (a b:En) (h:List AObj):qm Tryz.prog 77 [.agg (enC a),.agg (enC b)] h (.bool (qaq a b)) h:=by
 unfold qaq
 by_cases g1:a.frm<b.frm
 ·have k1:(a.frm<b.frm)=True:=eq_true g1
  rw [decide_eq_true g1,Bool.true_or]
  refine acO qrt ?_
  simp (disch:=omega) only [qxd,List.replicate,enC,k1,go_sem]
  repeat' first
   |((first|apply qc|apply qb);exact rvk;simp only [go_sem];first|exact VLe.refl _|apply qd|apply qa|apply qe|skip)
   |with_reducible first|refine And.intro ?_ ?_|intro _
  all_goals try exact clz
 have k1:(a.frm<b.frm)=False:=eq_false g1
 rw [decide_eq_false g1,Bool.false_or]
 by_cases g2:a.frm=b.frm
 ·have k2:(a.frm=b.frm)=True:=eq_true g2
  rw [decide_eq_true g2,Bool.true_and]
  refine acO qrt ?_
  simp (disch:=omega) only [qxd,List.replicate,enC,k1,k2,go_sem]
  repeat' first
   |((first|apply qc|apply qb);exact rvk;simp only [go_sem];first|exact VLe.refl _|apply qd|apply qa|apply qe|skip)
   |with_reducible first|refine And.intro ?_ ?_|intro _
  all_goals try exact clz
 ·have k2:(a.frm=b.frm)=False:=eq_false g2
  rw [decide_eq_false g2,Bool.false_and]
  refine acO qrt ?_
  simp (disch:=omega) only [qxd,List.replicate,enC,k1,k2,go_sem]
  repeat' first
   |((first|apply qc|apply qb);exact rvk;simp only [go_sem];first|exact VLe.refl _|apply qd|apply qa|apply qe|skip)
   |with_reducible first|refine And.intro ?_ ?_|intro _
  all_goals try exact clz
theorem vrR (names:List Str) (gs:List Gr) (e:En) (src:Int) (h:List AObj) (hz:Szs names gs) (he:e.vars.length≤1000000000) (hgm: ∀i,(gs.getD i default).mem.length≤1000) (hsg: ∀i,(e.vars.getD i default).sigla.length≤1000000):
  qm Tryz.prog 76 [strs names,qu gs,.agg (enC e),.int .i64 src] h (.int .i64 (vIx names gs e src)) h:=by
 unfold vIx
 refine acO qyo ?_
 simp (disch:=omega) only [qzD,List.replicate,enC,strs,qu,qB,go_sem]
 repeat' first
  |((first|apply qc|apply qb);exact rvk;simp only [go_sem];first|exact VLe.refl _|apply qd|apply qa|apply qe|skip)
  |with_reducible first|refine And.intro ?_ ?_|intro _
 all_goals try exact clz
 refine qn (T:=fun i:Nat=>qI 45 [(0,strs names),(1,qu gs),(3,.int .i64 src),(6,.op h.length 1 0),(9,.int .i64 i)])
  (H:=fun i=>h++ [.mem 1 49 [.int .i64 e.layer,.int .i64 e.frm,.int .i64 e.to,.bool e.pos,strs e.sup,qB e.vars]])
  (inv:=fun i=>i≤e.vars.length∧ ∀j,j<i→inV names gs e src j=false) (m:=fun i=>e.vars.length-i) 0 ⟨Nat.zero_le _,fun j hj=>absurd hj (Nat.not_lt_zero j)⟩ (Wk.temps ?_) ?_
 ·(simp only [strs,qu,qB,List.replicate,go_sem,qj,qh,qg,qi];try (repeat' first|(with_reducible refine And.intro ?_ ?_)|(apply qd;omega)|(apply qa;rfl)|exact VLe.refl _))
 rintro i ⟨i1,i2⟩ K hK
 by_cases hi:i<e.vars.length
 ·have k1:((i:Int)<e.vars.length)=True:=eq_true (by omega)
  have c28:=fun h=>qnv names gs (e.vars.getD i default).sigla h hz (hsg i) hgm
  have hl:=(kO names gs (e.vars.getD i default).sigla).2
  have hV:inV names gs e src i=decide (src∈zg names gs (e.vars.getD i default).sigla):=rfl
  obtain ⟨x,hx⟩: ∃x,x=e.vars.getD i default:=⟨_,rfl⟩
  have ex:=hx.symm
  simp only [ex]at c28 hV hl
  obtain ⟨L,hL⟩: ∃L,L=zg names gs x.sigla:=⟨_,rfl⟩
  obtain ⟨q,hq⟩: ∃q,q=ji names gs x.sigla:=⟨_,rfl⟩
  rw [←hL]at c28 hV hl
  rw [←hq]at c28
  unfold strs qu ql at c28
  simp (disch:=omega) only [List.replicate,strs,qu,qB,vaC,k1,ex,go_sem]
  repeat' first
   |((first|refine cA (c28 _) ?_ ?_|refine cG (fun e=>c28 _) ?_ ?_|refine cU (fun _=>c28 _) ?_ ?_);(next=>exact flk);simp (disch:=omega) only [strs,qu,qB,vaC,k1,ex,go_sem])
   |((first|apply qc|apply qb);exact rvk;simp only [go_sem];first|exact VLe.refl _|apply qd|apply qa|apply qe|skip)
   |with_reducible first|refine And.intro ?_ ?_|intro _
  all_goals try exact clz
  refine qn (T:=fun k:Nat=>qI 45 [(0,strs names),(1,qu gs),(3,.int .i64 src),(6,.op h.length 1 0),(9,.int .i64 i),(10,ql L),(12,.int .i64 k)])
   (H:=fun _=>h++ [.mem 1 49 [.int .i64 e.layer,.int .i64 e.frm,.int .i64 e.to,.bool e.pos,strs e.sup,qB e.vars]])
   (inv:=fun k=>k≤L.length∧ ∀j,j<k→L.getD j 0≠src) (m:=fun k=>L.length-k) 0 ⟨Nat.zero_le _,fun j hj=>absurd hj (Nat.not_lt_zero j)⟩ (Wk.temps ?_) ?_
  ·(simp only [strs,qu,qB,ql,List.replicate,go_sem,qj,qh,qg,qi];try (repeat' first|(with_reducible refine And.intro ?_ ?_)|(apply qd;omega)|(apply qa;rfl)|exact VLe.refl _))
  rintro k ⟨m1,m2⟩ K2 hK2
  by_cases hk:k<L.length
  ·have s1:((k:Int)<L.length)=True:=eq_true (by omega)
   obtain ⟨y,hy⟩: ∃y,y=L.getD k 0:=⟨_,rfl⟩
   have ey:=hy.symm
   by_cases g:y=src
   ·have s2:(y=src)=True:=eq_true g
    have hm:src∈L:=by
     rw [←g,hy,gdqA,qR hk]
     exact List.getElem_mem hk
    rw [kQ hi i2 (by rw [hV];exact decide_eq_true hm)]
    simp (disch:=omega) only [List.replicate,strs,qu,qB,ql,s1,ey,go_sem]
    repeat' first
     |((first|apply qc|apply qb);exact rvk;simp only [go_sem];first|exact VLe.refl _|apply qd|apply qa|apply qe|skip)
     |with_reducible first|refine And.intro ?_ ?_|intro _
    all_goals try exact clz
   ·have s2:(y=src)=False:=eq_false g
    simp (disch:=omega) only [List.replicate,strs,qu,qB,ql,s1,ey,go_sem]
    repeat' first
     |((first|apply qc|apply qb);exact rvk;simp only [go_sem];first|exact VLe.refl _|apply qd|apply qa|apply qe|skip)
     |with_reducible first|refine And.intro ?_ ?_|intro _
    all_goals try exact clz
    refine hK2 _ _ (k+1) ⟨hk,fun j hj=> ?_⟩ (by omega) (Wk.temps ?_)
    ·by_cases e':j=k
     ·subst e';rw [ey];exact g
     ·exact m2 j (by omega)
    ·(simp only [strs,qu,qB,ql,List.replicate,go_sem,qj,qh,qg,qi];try (repeat' first|(with_reducible refine And.intro ?_ ?_)|(apply qd;omega)|(apply qa;rfl)|exact VLe.refl _))
  have s1:((k:Int)<L.length)=False:=eq_false (by omega)
  have hno:inV names gs e src i=false:=by
   rw [hV]
   refine decide_eq_false fun hm=> ?_
   obtain ⟨j,hj,e'⟩:=List.getElem_of_mem hm
   refine m2 j (by omega) ?_
   rw [gdqA,qR hj]
   exact e'
  simp (disch:=omega) only [List.replicate,strs,qu,qB,ql,s1,go_sem]
  repeat' first
   |((first|apply qc|apply qb);exact rvk;simp only [go_sem];first|exact VLe.refl _|apply qd|apply qa|apply qe|skip)
   |with_reducible first|refine And.intro ?_ ?_|intro _
  all_goals try exact clz
  refine hK _ _ (i+1) ⟨hi,fun j hj=> ?_⟩ (by omega) (Wk.temps ?_)
  ·by_cases e':j=i
   ·subst e';exact hno
   ·exact i2 j (by omega)
  ·(simp only [strs,qu,qB,ql,List.replicate,go_sem,qj,qh,qg,qi];try (repeat' first|(with_reducible refine And.intro ?_ ?_)|(apply qd;omega)|(apply qa;rfl)|exact VLe.refl _))
 ·have k1:((i:Int)<e.vars.length)=False:=eq_false (by omega)
  rw [kG (fun j hj=>i2 j (by omega))]
  simp (disch:=omega) only [List.replicate,strs,qu,qB,k1,go_sem]
  repeat' first
   |((first|apply qc|apply qb);exact rvk;simp only [go_sem];first|exact VLe.refl _|apply qd|apply qa|apply qe|skip)
   |with_reducible first|refine And.intro ?_ ?_|intro _
  all_goals try exact clz
end RC
end
section
open Go Go.Proofs AF
def qfa:List Nat:= [93,74,79,120,147,148,161,170,63,105,131,64,31,32,57,58,29,30]
def qxw:C:=
 ((C.ops [ON 2 (.nilo 0 6 49) []]).seq (((C.ops [MV 3 0,O1 4 (.isnil .slice false) 3]).seq (C.cond (.t 4) ((C.ops [ON 2 (.nilo 0 6 49) []]).seq C.ret) C.skip)).seq ((C.ops [⟨some
 5,none,.bslc 1 6 0 49 [i6 0,i6 0,i6 0,.bool false,.nl,.nl] [],[]⟩,MV 6 0,O2 7 (.app 2 6 49 80) 5 6,MV 2 7]).seq
 C.ret)))
theorem qvj:qJ Tryz.prog 31 8 3 [RV.tmp 2] qxw:=fi Tryz.f31 [2,5,7] qfa [] (by kernel_rfl) (by kernel_rfl) (by kernel_rfl) (by kernel_rfl)
def qzG:C:=
 ((C.ops [MC 2 (.bool false)]).seq ((C.ops [MV 3 0,MV 4 0,BI 5 .neq 3 4,MV 2 5]).seq
 C.ret))
theorem qyr:qJ Tryz.prog 86 6 0 [RV.tmp 2] qzG:=fi Tryz.f86 [] qfa [] (by kernel_rfl) (by kernel_rfl) (by kernel_rfl) (by kernel_rfl)
def qqE:C:=
 ((C.ops [MV 10 1,BC 11 .add 10 (i6 1),MV 8 11]).seq (C.block 0 (((C.ops [MV 12 8,MV 13 2,BI 14 .lss 12 13]).seq (C.cond (.t 14) C.skip (C.exit 0))).seq ((C.block 1 ((C.ops [MV
 17 8,MV 9 17]).seq (C.block 2 (((C.ops [MV 18 9,MV 19 1,BI 20 .gtr 18 19,MV 21 20,MG 22 21 true 3,MG 23 21 true 0,MG 24 21 true 9,P2 25 21 true (.idxA 6) 23 24,P1 26 21
 true (.load (some 6)) 25,MG 27 21 true 0,MG 28 21 true 9,PC 29 21 true (.bin .sub) 28 (i6 1),P2 30 21 true (.idxA 6) 27 29,P1 31 21 true (.load (some 6)) 30,PN 32 21 true
 .callv [.t 22,.t 26,.t 31],PC 33 21 true (.bin .lss) 32 (i6 0),PF 34 21 33]).seq (C.cond (.t 34) C.skip (C.exit 2))).seq ((C.block 3 (C.ops [MV 37 0,MV 38 9,MV 39 0,MV 40 9,
 BC 41 .sub 40 (i6 1),MV 42 0,MV 43 9,BC 44 .sub 43 (i6 1),O2 45 (.idxA 6) 42 44,O1 46 (.load (some 6)) 45,MV 47 0,MV 48 9,O2 49 (.idxA 6) 47 48,O1 50 (.load (some 6)) 49,
 O2 51 (.idxA 6) 37 38,ST 6 51 46,O2 52 (.idxA 6) 39 41,ST 6 52 50])).seq (C.ops [MV 35 9,BC 36 .sub 35 (i6 1),MV 9 36]))).loop))).seq (C.ops [MV 15 8,BC 16 .add 15 (i6 1),MV
 8
 16]))).loop))
theorem qpR:qJ Tryz.prog 147 53 0 [] qqE:=fi Tryz.f147 [] qfa [] (by kernel_rfl) (by kernel_rfl) (by kernel_rfl) (by kernel_rfl)
end
section
open Go Go.Proofs AF HY LN
namespace RC
set_option maxHeartbeats 8000000
def qdC (a b:Int):Int:=if a<b then-1 else if b<a then 1 else 0
def qqN (a b:En):Int:=if qdC a.frm b.frm≠0 then qdC a.frm b.frm else qdC a.to b.to
theorem qzU (a:Int) (h:List AObj):qm Tryz.prog 86 [.int .i64 a] h (.bool false) h:=by
 have k:(a=a)=True:=eq_true rfl
 refine acO qyr ?_
 simp (disch:=omega) only [qzG,List.replicate,k,go_sem]
 repeat' first
  |((first|apply qc|apply qb);exact rvk;simp only [go_sem];first|exact VLe.refl _|apply qd|apply qa|apply qe|skip)
  |with_reducible first|refine And.intro ?_ ?_|intro _
 all_goals try exact clz
theorem qxR (a b:Int) (h:List AObj):qm Tryz.prog 122 [.int .i64 a,.int .i64 b] h (.int .i64 (qdC a b)) h:=by
 have c1:=fun h=>qzU a h
 have c2:=fun h=>qzU b h
 unfold qdC
 by_cases g1:a<b
 ·have k1:(a<b)=True:=eq_true g1
  rw [if_pos g1]
  refine acO qkc ?_
  simp (disch:=omega) only [qm2,List.replicate,k1,go_sem]
  repeat' first
   |((first|refine cA (c1 _) ?_ ?_|refine cG (fun e=>c1 _) ?_ ?_|refine cA (c2 _) ?_ ?_|refine cG (fun e=>c2 _) ?_ ?_|refine cU (fun _=>c1 _) ?_ ?_|refine cU (fun _=>c2 _) ?_ ?_);(next=>exact flk);simp (disch:=omega) only [k1,go_sem])
   |((first|apply qc|apply qb);exact rvk;simp only [go_sem];first|exact VLe.refl _|apply qd|apply qa|apply qe|skip)
   |with_reducible first|refine And.intro ?_ ?_|intro _
  all_goals try exact clz
 have k1:(a<b)=False:=eq_false g1
 rw [if_neg g1]
 by_cases g2:b<a
 ·have k2:(b<a)=True:=eq_true g2
  rw [if_pos g2]
  refine acO qkc ?_
  simp (disch:=omega) only [qm2,List.replicate,k1,k2,go_sem]
  repeat' first
   |((first|refine cA (c1 _) ?_ ?_|refine cG (fun e=>c1 _) ?_ ?_|refine cA (c2 _) ?_ ?_|refine cG (fun e=>c2 _) ?_ ?_|refine cU (fun _=>c1 _) ?_ ?_|refine cU (fun _=>c2 _) ?_ ?_);(next=>exact flk);simp (disch:=omega) only [k1,k2,go_sem])
   |((first|apply qc|apply qb);exact rvk;simp only [go_sem];first|exact VLe.refl _|apply qd|apply qa|apply qe|skip)
   |with_reducible first|refine And.intro ?_ ?_|intro _
  all_goals try exact clz
 ·have k2:(b<a)=False:=eq_false g2
  rw [if_neg g2]
  refine acO qkc ?_
  simp (disch:=omega) only [qm2,List.replicate,k1,k2,go_sem]
  repeat' first
   |((first|refine cA (c1 _) ?_ ?_|refine cG (fun e=>c1 _) ?_ ?_|refine cA (c2 _) ?_ ?_|refine cG (fun e=>c2 _) ?_ ?_|refine cU (fun _=>c1 _) ?_ ?_|refine cU (fun _=>c2 _) ?_ ?_);(next=>exact flk);simp (disch:=omega) only [k1,k2,go_sem])
   |((first|apply qc|apply qb);exact rvk;simp only [go_sem];first|exact VLe.refl _|apply qd|apply qa|apply qe|skip)
   |with_reducible first|refine And.intro ?_ ?_|intro _
  all_goals try exact clz
theorem orP (l:List Int) (h:List AObj) (hl:l.length≤1000000000):qm Tryz.prog 121 [ql l] h (.int .i64 (qab (fun i=>l.getD i 0) 0 l.length)) h:=by
 obtain ⟨R,hR⟩: ∃R,R=qab (fun i=>l.getD i 0) 0 l.length:=⟨_,rfl⟩
 rw [←hR]
 refine acO quP ?_
 simp (disch:=omega) only [qtK,List.replicate,ql,go_sem]
 repeat' first
  |((first|apply qc|apply qb);exact rvk;simp only [go_sem];first|exact VLe.refl _|apply qd|apply qa|apply qe|skip)
  |with_reducible first|refine And.intro ?_ ?_|intro _
 all_goals try exact clz
 refine qn (T:=fun i:Nat=>qI 18 [(3,.int .i64 0),(6,ql l),(7,.int .i64 l.length),(8,.int .i64 i)]) (H:=fun _=>h) (inv:=fun i=>i≤l.length∧ ∀j,j<i→l.getD j 0=0) (m:=fun i=>l.length-i) 0 ⟨Nat.zero_le _,fun j hj=>by omega⟩ (Wk.temps ?_) ?_
 ·(simp only [ql,List.replicate,go_sem,qj,qh,qg,qi];try (repeat' first|(with_reducible refine And.intro ?_ ?_)|(apply qd;omega)|(apply qa;rfl)|exact VLe.refl _))
 rintro i ⟨i1,i2⟩ K hK
 by_cases hi:i<l.length
 ·have k1:((i:Int)<l.length)=True:=eq_true (by omega)
  have hE:=qP (f:=fun i=>l.getD i 0) hi i2
  rw [←hR]at hE
  obtain ⟨v,hv⟩: ∃v,v=l.getD i 0:=⟨_,rfl⟩
  have ev:=hv.symm
  simp only [ev]at hE
  by_cases g:v=0
  ·have k2:(v=0)=True:=eq_true g
   simp (disch:=omega) only [List.replicate,ql,k1,ev,go_sem]
   repeat' first
    |((first|apply qc|apply qb);exact rvk;simp only [go_sem];first|exact VLe.refl _|apply qd|apply qa|apply qe|skip)
    |with_reducible first|refine And.intro ?_ ?_|intro _
   all_goals try exact clz
   refine hK _ _ (i+1) ⟨hi,fun j hj=> ?_⟩ (by omega) (Wk.temps ?_)
   ·by_cases e:j=i
    ·subst e;rw [ev];exact g
    ·exact i2 j (by omega)
   ·(simp only [ql,List.replicate,go_sem,qj,qh,qg,qi];try (repeat' first|(with_reducible refine And.intro ?_ ?_)|(apply qd;omega)|(apply qa;rfl)|exact VLe.refl _))
  ·have k2:(v=0)=False:=eq_false g
   rw [hE g]
   simp (disch:=omega) only [List.replicate,ql,k1,ev,go_sem]
   repeat' first
    |((first|apply qc|apply qb);exact rvk;simp only [go_sem];first|exact VLe.refl _|apply qd|apply qa|apply qe|skip)
    |with_reducible first|refine And.intro ?_ ?_|intro _
   all_goals try exact clz
 ·have k1:((i:Int)<l.length)=False:=eq_false (by omega)
  rw [show R=0 by rw [hR];exact qC (fun j hj=>i2 j (by omega))]
  simp (disch:=omega) only [List.replicate,ql,k1,go_sem]
  repeat' first
   |((first|apply qc|apply qb);exact rvk;simp only [go_sem];first|exact VLe.refl _|apply qd|apply qa|apply qe|skip)
   |with_reducible first|refine And.intro ?_ ?_|intro _
  all_goals try exact clz
theorem qAP (k v:Nat) (ty:TypeId) (L:List Int) (h:List AObj) (n:Nat) (hn0:n=L.length) (hk:qA k h=some (.mem v ty (qp L))) (hn:L.length≤1000000000):qm Tryz.prog 121 [.osl k v 1 0 n] h (.int .i64 (qab (fun i=>L.getD i 0) 0 L.length)) h:=by
 subst hn0
 refine qm.borrow ?_ rfl
 have e:([AV.osl k v 1 0 L.length]).map (rei (fun _=>true) h 8)= [AV.sl L.length (fun i=>(((qp L).drop i).take 1).map (rei (fun _=>true) h 7))]:=by
  simp only [List.map_cons,List.map_nil,rei_osl,if_true,hk,slOf_mem,qw,Nat.zero_add,Nat.mul_one,Nat.le_refl,and_self]
 rw [e]
 exact (orP L [] hn).le (qqm (jd _ (fun n=>rfl) rfl) kw.nil) (VLe.refl _)
theorem qxQ (a b:En) (h:List AObj):qm Tryz.prog 80 [.agg (enC a),.agg (enC b)] h (.int .i64 (qqN a b)) h:=by
 have c1:=fun h=>qxR a.frm b.frm h
 have c2:=fun h=>qxR a.to b.to h
 have e:qqN a b=qab (fun i=> [qdC a.frm b.frm,qdC a.to b.to].getD i 0) 0 [qdC a.frm b.frm,qdC a.to b.to].length:=by
  unfold qqN
  simp only [List.length_cons,List.length_nil,qab,List.getD_cons_zero,List.getD_cons_succ]
  split
  ·rfl
  ·split
   ·rfl
   ·rename_i g;exact Classical.not_not.1 g
 rw [e]
 obtain ⟨x,hx⟩: ∃x,x=qdC a.frm b.frm:=⟨_,rfl⟩
 obtain ⟨y,hy⟩: ∃y,y=qdC a.to b.to:=⟨_,rfl⟩
 rw [←hx,←hy]
 rw [←hx]at c1
 rw [←hy]at c2
 refine acO qyp ?_
 simp (disch:=omega) only [qzE,List.replicate,enC,go_sem]
 repeat' first
  |((first|refine cA (c1 _) ?_ ?_|refine cG (fun e=>c1 _) ?_ ?_|refine cA (c2 _) ?_ ?_|refine cG (fun e=>c2 _) ?_ ?_|refine cU (fun _=>c1 _) ?_ ?_|refine cU (fun _=>c2 _) ?_ ?_);(next=>exact flk);simp (disch:=omega) only [enC,go_sem])
  |((first|apply qc|apply qb);exact rvk;simp only [go_sem];first|exact VLe.refl _|apply qd|apply qa|apply qe|skip)
  |with_reducible first|refine And.intro ?_ ?_|intro _
 all_goals try exact clz
 have eC:AV.int .i64 x::AV.int .i64 y::List.drop 1 (List.drop 1 (zr [i6 0] 2))=qp [x,y]:=rfl
 rw [eC]
 have c3:=qAP (h.length+2) 1 3 [x,y] (h++ [.mem 1 49 (enC a),.mem 1 49 (enC b),.mem 1 3 (qp [x,y])]) 2 rfl (by rw [getO_app];rfl) (by simp)
 unfold enC at c3
 repeat' first
  |((first|refine cA (c3) ?_ ?_|refine cG (fun e=>c3) ?_ ?_);(next=>exact flk);simp (disch:=omega) only [go_sem])
  |((first|apply qc|apply qb);exact rvk;simp only [go_sem];first|exact VLe.refl _|apply qd|apply qa|apply qe|skip)
  |with_reducible first|refine And.intro ?_ ?_|intro _
 all_goals try exact clz
end RC
end
section
namespace RC
variable {α : Type}
def kq (lt:α→α→Bool) (x:α):List α→List α
 | []=> [x]
 |y::r=>if lt x y=true then y::kq lt x r else x::y::r
def kr (lt:α→α→Bool):List α→List α→List α
 |acc,[]=>acc
 |acc,x::r=>kr lt (kq lt x acc) r
def qtt (lt:α→α→Bool):Prop:= ∀a b c,lt a b=false→lt b c=false→lt a c=false
def Asy (lt:α→α→Bool):Prop:= ∀a b,lt a b=true→lt b a=false
def qth (lt:α→α→Bool) (l:List α):Prop:=l.Pairwise fun a b=>lt a b=false
theorem qgb {lt:α→α→Bool} {x:α}: ∀ {l:List α} {z:α},z∈kq lt x l↔z=x∨z∈l:=by
 intro l
 induction l with
 |nil=>intro z;simp [kq]
 |cons y r ih=>
  intro z
  unfold kq
  split
  ·simp only [List.mem_cons,ih]
   constructor
   ·rintro (h|h|h)
    ·exact .inr (.inl h)
    ·exact .inl h
    ·exact .inr (.inr h)
   ·rintro (h|h|h)
    ·exact .inr (.inl h)
    ·exact .inl h
    ·exact .inr (.inr h)
  ·simp
theorem qb8 {lt:α→α→Bool} (hn:qtt lt) (ha:Asy lt) {x:α}: ∀ {l:List α},qth lt l→qth lt (kq lt x l):=by
 intro l
 induction l with
 |nil=>intro _;exact List.pairwise_singleton _ _
 |cons y r ih=>
  intro h
  obtain ⟨h1,h2⟩:=List.pairwise_cons.1 h
  unfold kq
  by_cases g:lt x y=true
  ·rw [if_pos g]
   refine List.pairwise_cons.2 ⟨fun z hz=> ?_,ih h2⟩
   rcases qgb.1 hz with rfl|hz
   ·exact ha _ _ g
   ·exact h1 z hz
  ·rw [if_neg g]
   have g:lt x y=false:=by simpa using g
   refine List.pairwise_cons.2 ⟨fun z hz=> ?_,h⟩
   rcases List.mem_cons.1 hz with rfl|hz
   ·exact g
   ·exact hn _ _ _ g (h1 z hz)
theorem qkq {lt:α→α→Bool} {x:α} {l:List α} (h: ∀z∈l,lt x z=false):kq lt x l=x::l:=by
 cases l with
 |nil=>rfl
 |cons y r=>
  unfold kq
  rw [if_neg (by rw [h y (by simp)];simp)]
theorem qe7 {lt:α→α→Bool} (hn:qtt lt) (p:α→Bool) (x:α): ∀ {l:List α},qth lt l→(kq lt x l).filter p=if p x=true then kq lt x (l.filter p) else l.filter p:=by
 intro l
 induction l with
 |nil=>intro _;unfold kq;by_cases h:p x=true<;>simp [h,kq]
 |cons y r ih=>
  intro h
  obtain ⟨h1,h2⟩:=List.pairwise_cons.1 h
  by_cases g:lt x y=true
  ·have e:kq lt x (y::r)=y::kq lt x r:=by rw [kq,if_pos g]
   rw [e,List.filter_cons,List.filter_cons,ih h2]
   by_cases hy:p y=true
   ·rw [if_pos hy,if_pos hy]
    by_cases hx:p x=true
    ·rw [if_pos hx,if_pos hx,kq,if_pos g]
    ·rw [if_neg hx,if_neg hx]
   ·rw [if_neg hy,if_neg hy]
  ·have e:kq lt x (y::r)=x::y::r:=by rw [kq,if_neg g]
   have g:lt x y=false:=by simpa using g
   rw [e]
   by_cases hx:p x=true
   ·rw [if_pos hx,List.filter_cons,if_pos hx,qkq]
    intro z hz
    rcases List.mem_cons.1 (List.mem_filter.1 hz).1 with rfl|hz
    ·exact g
    ·exact hn _ _ _ g (h1 z hz)
   ·rw [if_neg hx,List.filter_cons,if_neg hx]
theorem qbi {lt:α→α→Bool} (hn:qtt lt) (ha:Asy lt) (p:α→Bool): ∀(l acc:List α),qth lt acc→(kr lt acc l).filter p=kr lt (acc.filter p) (l.filter p):=by
 intro l
 induction l with
 |nil=>intro acc _;rfl
 |cons x r ih=>
  intro acc h
  rw [kr,ih _ (qb8 hn ha h),qe7 hn p x h,List.filter_cons]
  by_cases hx:p x=true
  ·rw [if_pos hx,if_pos hx,kr]
  ·rw [if_neg hx,if_neg hx]
theorem qez {lt:α→α→Bool} (hn:qtt lt) (ha:Asy lt): ∀(l acc:List α),qth lt acc→qth lt (kr lt acc l):=by
 intro l
 induction l with
 |nil=>intro acc h;exact h
 |cons x r ih=>intro acc h;exact ih _ (qb8 hn ha h)
theorem qn7 {β:Type} {lt:α→α→Bool} {lu:β→β→Bool} (f:α→β) (hf: ∀a b,lu (f a) (f b)=lt a b) (x:α): ∀l:List α,(kq lt x l).map f=kq lu (f x) (l.map f):=by
 intro l
 induction l with
 |nil=>rfl
 |cons y r ih=>
  rw [kq,List.map_cons,kq,hf]
  split
  ·rw [List.map_cons,ih]
  ·rfl
theorem qeb {β:Type} {lt:α→α→Bool} {lu:β→β→Bool} (f:α→β) (hf: ∀a b,lu (f a) (f b)=lt a b): ∀(l acc:List α),(kr lt acc l).map f=kr lu (acc.map f) (l.map f):=by
 intro l
 induction l with
 |nil=>intro acc;rfl
 |cons x r ih=>intro acc;rw [kr,ih,qn7 f hf,List.map_cons,kr]
end RC
end
section
namespace RC
variable {α : Type}
theorem qnZ {lt:α→α→Bool} {x:α}: ∀ {P Q:List α},(∀z∈P,lt x z=true)→kq lt x (P++Q)=P++kq lt x Q:=by
 intro P
 induction P with
 |nil=>intro Q _;rfl
 |cons y r ih=>
  intro Q h
  rw [List.cons_append,kq,if_pos (h y (by simp)),ih (fun z hz=>h z (by simp [hz])),List.cons_append]
theorem qks {lt:α→α→Bool} {x d:α} {M:List α} {k:Nat} (hk:k≤M.length) (h1: ∀j,k≤j→j<M.length→lt x (M.getD j d)=true) (h2:k=0∨lt x (M.getD (k-1) d)=false):
  (kq lt x M.reverse).reverse=M.take k++x::M.drop k:=by
 have e:M.reverse=(M.drop k).reverse++(M.take k).reverse:=by rw [←List.reverse_append,List.take_append_drop]
 rw [e,qnZ,List.reverse_append,List.reverse_reverse]
 ·have e2:kq lt x (M.take k).reverse=x::(M.take k).reverse:=by
   rcases h2 with rfl|h2
   ·rfl
   ·by_cases k0:k=0
    ·subst k0;rfl
    ·have hl:k-1<M.length:=by omega
     have e3:M.take k=M.take (k-1)++ [M.getD (k-1) d]:=by
      have:=List.take_succ_eq_append_getElem hl
      rw [show k-1+1=k by omega]at this
      rw [this,gdqA,qR hl]
      rfl
     rw [e3,List.reverse_append,List.reverse_singleton,List.singleton_append,kq,if_neg (by rw [h2];simp)]
  rw [e2]
  simp
 ·intro z hz
  rw [List.mem_reverse]at hz
  obtain ⟨j,hj,rfl⟩:=List.getElem_of_mem hz
  rw [List.length_drop]at hj
  have:=h1 (k+j) (by omega) (by omega)
  rw [gdqA,qR (by omega)]at this
  rw [List.getElem_drop]
  exact this
end RC
end
section
open Go Go.Proofs AF HY LN
namespace RC
set_option maxHeartbeats 8000000
def qrd (l:List En) (i:Int):En:=l.getD i.toNat default
def qqy (l:List En) (a b:Int):Bool:=qaq (qrd l a) (qrd l b)
def qvY (names:List Str) (gs:List Gr) (l:List En) (src:Int) (n:Nat):List Int:=((List.range n).filter fun i=>decide (0≤vIx names gs (l.getD i default) src)).map Int.ofNat
def qbq (names:List Str) (gs:List Gr) (l:List En) (src:Int) (n:Nat):List Int:=(kr (qqy l) [] (qvY names gs l src n)).reverse
theorem qey {α:Type} (lt:α→α→Bool): ∀(a b acc:List α),kr lt acc (a++b)=kr lt (kr lt acc a) b:=by
 intro a
 induction a with
 |nil=>intro b acc;rfl
 |cons x r ih=>intro b acc;exact ih b _
theorem qci (names:List Str) (gs:List Gr) (l:List En) (src:Int) (n:Nat):qbq names gs l src (n+1)=if 0≤vIx names gs (l.getD n default) src then (kq (qqy l) (n:Int) (qbq names gs l src n).reverse).reverse else qbq names gs l src n:=by
 unfold qbq qvY
 rw [List.range_succ,List.filter_append,List.map_append,qey,List.reverse_reverse]
 by_cases h:0≤vIx names gs (l.getD n default) src
 ·rw [if_pos h]
  have:List.map Int.ofNat (List.filter (fun i=>decide (0≤vIx names gs (l.getD i default) src)) [n])= [(n:Int)]:=by rw [List.filter_cons,if_pos (decide_eq_true h)];rfl
  rw [this]
  rfl
 ·rw [if_neg h]
  have:List.map Int.ofNat (List.filter (fun i=>decide (0≤vIx names gs (l.getD i default) src)) [n])= []:=by rw [List.filter_cons,if_neg (by simpa using h)];rfl
  rw [this]
  rfl
theorem qn0 {α:Type} {lt:α→α→Bool} {x:α}: ∀l:List α,(kq lt x l).length=l.length+1:=by
 intro l
 induction l with
 |nil=>rfl
 |cons y r ih=>
  unfold kq
  split
  ·rw [List.length_cons,ih,List.length_cons]
  ·rfl
theorem qgm (names:List Str) (gs:List Gr) (l:List En) (src:Int): ∀n,(qbq names gs l src n).length≤n:=by
 intro n
 induction n with
 |zero=>exact Nat.le_refl _
 |succ n ih=>
  rw [qci]
  split
  ·rw [List.length_reverse,qn0,List.length_reverse];omega
  ·omega
theorem qgn (names:List Str) (gs:List Gr) (l:List En) (src:Int): ∀n,∀x∈qbq names gs l src n,0≤x∧x<n:=by
 intro n
 induction n with
 |zero=>intro x hx;simp [qbq,qvY,kr]at hx
 |succ n ih=>
  intro x hx
  rw [qci]at hx
  split at hx
  ·rw [List.mem_reverse,qgb,List.mem_reverse]at hx
   rcases hx with rfl|hx
   ·omega
   ·have:=ih x hx;omega
  ·have:=ih x hx;omega
end RC
end
section
open Go Go.Proofs AF HY LN
namespace RC
set_option maxHeartbeats 8000000
theorem qcK {Z:List Int} {k:Nat} {a:Int} (h:k<Z.length):List.take k (qp Z)++ [AV.int .i64 a]++List.drop (k+1) (qp Z)=qp (Z.set k a):=by
 rw [List.set_eq_take_append_cons_drop,if_pos h]
 unfold qp
 simp
theorem qoP {Z M:List Int} {k:Nat} {i Y:Int} (hk:0<k) (hkm:k≤M.length) (h:Z.set k i=M.take k++i::M.drop k) (hY:M.getD (k-1) 0=Y):(Z.set k Y).set (k-1) i=M.take (k-1)++i::M.drop (k-1):=by
 have e1:Z.set k Y=(Z.set k i).set k Y:=by rw [List.set_set]
 have hl:k-1<M.length:=by omega
 have hY':M[k-1]=Y:=by rw [←hY,gdqA,qR hl];rfl
 have e2:M.take k=M.take (k-1)++ [Y]:=by
  have:=List.take_succ_eq_append_getElem hl
  rw [show k-1+1=k by omega]at this
  rw [this,hY']
 have e3:M.drop (k-1)=Y::M.drop k:=by
  rw [List.drop_eq_getElem_cons hl,hY',show k-1+1=k by omega]
 have l1:(M.take k).length=k:=by rw [List.length_take];omega
 have l2:(M.take (k-1)).length=k-1:=by rw [List.length_take];omega
 rw [e1,h,List.set_append_right _ _ (by omega),l1,Nat.sub_self,List.set_cons_zero,e2,List.append_assoc,List.set_append_right _ _ (by omega),l2,Nat.sub_self,e3]
 rfl
theorem qAQ (names:List Str) (gs:List Gr) (l:List En) (src:Int) (h:List AObj) (hz:Szs names gs) (hl:l.length≤1000000) (hgm: ∀i,(gs.getD i default).mem.length≤1000) (hv: ∀i,(l.getD i default).vars.length≤1000000) (hsg: ∀i j,((l.getD i default).vars.getD j default).sigla.length≤1000000):
  qm Tryz.prog 47 [strs names,qu gs,qy l,.int .i64 src] h (ql (qbq names gs l src l.length)) h:=by
 refine acO qyc ?_
 simp (disch:=omega) only [qzs,List.replicate,qy,go_sem]
 repeat' first
  |((first|apply qc|apply qb);exact rvk;simp only [go_sem];first|exact VLe.refl _|apply qd|apply qa|apply qe|skip)
  |with_reducible first|refine And.intro ?_ ?_|intro _
 all_goals try exact clz
 have eM:zr [AV.int .i64 0] 0=qp (qbq names gs l src 0):=rfl
 rw [eM]
 refine qn (T:=fun i:Nat×Nat×Nat=>qI 66 [(0,strs names),(1,qu gs),(2,qy l),(3,.int .i64 src),(9,.osl (h.length+1) i.2.1 1 0 (qbq names gs l src i.1).length),(10,.int .i64 i.1)]) (H:=fun i=>h++ [.emp 1,.mem i.2.1 3 (qp (qbq names gs l src i.1)),.emp i.2.2,.emp 0])
  (inv:=fun i=>i.1≤l.length) (m:=fun i=>l.length-i.1) (0,1,0) (Nat.zero_le _) (Wk.temps ?_) ?_
 ·have e0:(qbq names gs l src 0).length=0:=rfl
  (simp only [qy,e0,List.replicate,go_sem,qj,qh,qg,qi];try (repeat' first|(with_reducible refine And.intro ?_ ?_)|(apply qd;omega)|(apply qa;rfl)|exact VLe.refl _))
 rintro ⟨i,v,w⟩ i1 K hK
 simp only at i1 hK
 have hst:=qci names gs l src i
 have hln:=qgm names gs l src i
 have hrg:=qgn names gs l src i
 obtain ⟨M,hM⟩: ∃M,M=qbq names gs l src i:=⟨_,rfl⟩
 have eM:=hM.symm
 have eC:=qw M
 rw [eM]at hst hln hrg
 by_cases hi:i<l.length
 ·have k1:((i:Int)<l.length)=True:=eq_true (by omega)
  have c76:=fun h=>vrR names gs (l.getD i default) src h hz (by have:=hv i;omega) hgm (hsg i)
  obtain ⟨x,hx⟩: ∃x,x=l.getD i default:=⟨_,rfl⟩
  have ex:=hx.symm
  simp only [ex]at c76 hst
  obtain ⟨q,hq⟩: ∃q,q=vIx names gs x src:=⟨_,rfl⟩
  rw [←hq]at c76 hst
  by_cases g:0≤q
  ·have k2:(q<0)=False:=eq_false (by omega)
   rw [if_pos g]at hst
   have eT:List.take M.length (qp M)=qp M:=List.take_of_length_le (by omega)
   simp only [enC]at c76
   simp (disch:=omega) only [List.replicate,qy,enC,k1,eM,ex,Nat.mul_one,go_sem]
   repeat' first
    |((first|refine cA (c76 _) ?_ ?_|refine cG (fun e=>c76 _) ?_ ?_|refine cU (fun _=>c76 _) ?_ ?_);(next=>exact flk);simp (disch:=omega) only [qy,enC,k1,k2,eM,ex,eC,eT,Nat.mul_one,go_sem])
    |((first|apply qc|apply qb);exact rvk;simp only [go_sem];first|exact VLe.refl _|apply qd|apply qa|apply qe|skip)
    |with_reducible first|refine And.intro ?_ ?_|intro _
   all_goals try exact clz
   have eA:qp M++ [AV.int .i64 (i:Int)]=qp (M++ [(i:Int)]):=by rw [qQ];rfl
   rw [eA]
   refine qn (T:=fun k:Nat×Nat×List Int=>qI 66 [(0,strs names),(1,qu gs),(2,qy l),(3,.int .i64 src),(9,.osl (h.length+1) (v+1) 1 0 (M.length+1)),(10,.int .i64 i),(11,.int .i64 k.1)])
    (H:=fun k=>h++ [.emp 1,.mem (v+1) 3 (qp k.2.2),.emp k.2.1,.emp 0])
    (inv:=fun k=>k.1≤M.length∧k.2.2.length=M.length+1∧k.2.2.set k.1 (i:Int)=M.take k.1++(i:Int)::M.drop k.1∧(∀j,j<k.1→k.2.2.getD j 0=M.getD j 0)∧ ∀j,k.1≤j→j<M.length→qqy l i (M.getD j 0)=true) (m:=fun k=>k.1) (M.length,w+1+1,M++ [(i:Int)]) ⟨Nat.le_refl _,by simp,by simp,fun j hj=>by simp [gdqA,List.getElem?_append_left hj],fun j h1 h2=>by omega⟩ (Wk.trans Wk.kill2 (Wk.temps ?_)) ?_
   ·(simp only [qy,enC,strs,qu,List.replicate,go_sem,qj,qh,qg,qi];try (repeat' first|(with_reducible refine And.intro ?_ ?_)|(apply qd;omega)|(apply qa;rfl)|exact VLe.refl _))
   rintro ⟨k,w2,Z⟩ ⟨n1,n2,n3,n4,n5⟩ K2 hK2
   simp only at n1 n2 n3 n4 n5 hK2
   have eZ:=qw Z
   by_cases hk:0<k
   ·have s1:((0:Int)<k)=True:=eq_true (by omega)
    have hy:=n4 (k-1) (by omega)
    have hyM:M.getD (k-1) 0∈M:=by rw [gdqA,qR (by omega)];exact List.getElem_mem (by omega)
    have hyr:=hrg _ hyM
    obtain ⟨Y,hY⟩: ∃Y:Nat,M.getD (k-1) 0=(Y:Int):=⟨(M.getD (k-1) 0).toNat,by omega⟩
    rw [hY]at hy hyr
    have s2:(0≤(k:Int)-1)=True:=eq_true (by omega)
    have s3:((k:Int)-1<(M.length:Int)+1)=True:=eq_true (by omega)
    have s4:((k:Int)-1).toNat=k-1:=by omega
    have s5:(0≤(Y:Int))=True:=eq_true (by omega)
    have s6:((Y:Int)<l.length)=True:=eq_true (by omega)
    have s7:((k:Int)<(M.length:Int)+1)=True:=eq_true (by omega)
    have s8:(0≤(k:Int))=True:=eq_true (by omega)
    have eY:(qp Z)[k-1]?.getD AV.undef= .int .i64 (Y:Int):=by
     rw [gdqA,qR (by omega)]at hy
     unfold qp
     rw [List.getElem?_map,qR (by omega)]
     show AV.int .i64 Z[k-1]=_
     rw [show Z[k-1]=(Y:Int)from hy]
    have c77:=fun h=>qAd (l.getD i default) (l.getD Y default) h
    have hbI:qqy l (i:Int) (Y:Int)=qaq (l.getD i default) (l.getD Y default):=rfl
    simp only [enC]at c77
    cases hb:qaq (l.getD i default) (l.getD Y default)with
    |true=>
     rw [hb]at c77 hbI
     simp (disch:=omega) only [List.replicate,qy,enC,s1,s2,s3,s4,s5,s6,s7,s8,k1,eZ,n2,eY,Int.toNat_natCast,go_sem]
     repeat' first
      |((first|refine cA (c77 _) ?_ ?_|refine cG (fun e=>c77 _) ?_ ?_|refine cU (fun _=>c77 _) ?_ ?_);(next=>exact flk);simp (disch:=omega) only [qy,enC,s1,s2,s3,s4,s5,s6,s7,s8,k1,eZ,n2,eY,Int.toNat_natCast,go_sem])
      |((first|apply qc|apply qb);exact rvk;simp only [go_sem];first|exact VLe.refl _|apply qd|apply qa|apply qe|skip)
      |with_reducible first|refine And.intro ?_ ?_|intro _
     all_goals try exact clz
     have e1:(k:Int)-1=((k-1:Nat):Int):=by omega
     rw [qcK (by omega),e1]
     refine hK2 _ _ (k-1,w2,Z.set k (Y:Int)) ⟨by simp only;omega,by rw [List.length_set];exact n2,qoP hk n1 n3 hY,fun j hj=> ?_,fun j h1 h2=> ?_⟩ (by simp only;omega) (Wk.temps ?_)
     ·simp only at hj ⊢
      rw [gdqA,List.getElem?_set_ne (by omega),←gdqA]
      exact n4 j (by omega)
     ·by_cases e':j=k-1
      ·subst e';rw [hY];exact hbI
      ·exact n5 j (by simp only at h1;omega) h2
     ·(simp only [qy,enC,strs,qu,List.replicate,go_sem,qj,qh,qg,qi];try (repeat' first|(with_reducible refine And.intro ?_ ?_)|(apply qd;omega)|(apply qa;rfl)|exact VLe.refl _))
    |false=>
     rw [hb]at c77 hbI
     have hfin:(kq (qqy l) (i:Int) M.reverse).reverse=M.take k++(i:Int)::M.drop k:=qks (d:=0) n1 n5 (.inr (by rw [hY];exact hbI))
     rw [hfin]at hst
     simp (disch:=omega) only [List.replicate,qy,enC,s1,s2,s3,s4,s5,s6,s7,s8,k1,eZ,n2,eY,Int.toNat_natCast,go_sem]
     repeat' first
      |((first|refine cA (c77 _) ?_ ?_|refine cG (fun e=>c77 _) ?_ ?_|refine cU (fun _=>c77 _) ?_ ?_);(next=>exact flk);simp (disch:=omega) only [qy,enC,s1,s2,s3,s4,s5,s6,s7,s8,k1,eZ,n2,eY,Int.toNat_natCast,go_sem])
      |((first|apply qc|apply qb);exact rvk;simp only [go_sem];first|exact VLe.refl _|apply qd|apply qa|apply qe|skip)
      |with_reducible first|refine And.intro ?_ ?_|intro _
     all_goals try exact clz
     have eN:M.length+1=(qbq names gs l src (i+1)).length:=by rw [hst];simp;omega
     rw [qcK (by omega),n3,←hst,eN]
     refine hK _ _ (i+1,v+1,w2) hi (by simp only;omega) (Wk.temps ?_)
     (simp only [qy,enC,strs,qu,List.replicate,go_sem,qj,qh,qg,qi];try (repeat' first|(with_reducible refine And.intro ?_ ?_)|(apply qd;omega)|(apply qa;rfl)|exact VLe.refl _))
   ·have s1:((0:Int)<k)=False:=eq_false (by omega)
    obtain rfl:k=0:=by omega
    have hfin:(kq (qqy l) (i:Int) M.reverse).reverse=M.take 0++(i:Int)::M.drop 0:=qks (d:=0) (Nat.zero_le _) n5 (.inl rfl)
    rw [hfin]at hst
    have s2:((0:Int)<(M.length:Int)+1)=True:=eq_true (by omega)
    simp (disch:=omega) only [List.replicate,qy,enC,s1,Int.natCast_zero,go_sem]
    repeat' first
     |(refine qo ( .bool false) ?_;simp (disch:=omega) only [qy,enC,s1,s2,eZ,n2,Int.natCast_zero,go_sem])
     |((first|apply qc|apply qb);exact rvk;simp only [go_sem];first|exact VLe.refl _|apply qd|apply qa|apply qe|skip)
     |with_reducible first|refine And.intro ?_ ?_|intro _
    all_goals try exact clz
    have eF:AV.int .i64 (i:Int)::List.drop 1 (qp Z)=qp (Z.set 0 (i:Int)):=by
     cases Z with
     |nil=>simp at n2
     |cons a Z=>rfl
    have eN:M.length+1=(qbq names gs l src (i+1)).length:=by rw [hst];simp
    rw [eF,n3,←hst,eN]
    refine hK _ _ (i+1,v+1,w2) hi (by simp only;omega) (Wk.temps ?_)
    (simp only [qy,enC,strs,qu,List.replicate,go_sem,qj,qh,qg,qi];try (repeat' first|(with_reducible refine And.intro ?_ ?_)|(apply qd;omega)|(apply qa;rfl)|exact VLe.refl _))
  ·have k2:(q<0)=True:=eq_true (by omega)
   rw [if_neg g]at hst
   simp only [enC]at c76
   simp (disch:=omega) only [List.replicate,qy,enC,k1,eM,ex,go_sem]
   repeat' first
    |((first|refine cA (c76 _) ?_ ?_|refine cG (fun e=>c76 _) ?_ ?_|refine cU (fun _=>c76 _) ?_ ?_);(next=>exact flk);simp (disch:=omega) only [qy,enC,k1,k2,eM,ex,go_sem])
    |((first|apply qc|apply qb);exact rvk;simp only [go_sem];first|exact VLe.refl _|apply qd|apply qa|apply qe|skip)
    |with_reducible first|refine And.intro ?_ ?_|intro _
   all_goals try exact clz
   refine hK _ _ (i+1,v,w) hi (by simp only;omega) ?_
   simp only [hst]
   refine Wk.temps ?_
   (simp only [qy,enC,List.replicate,go_sem,qj,qh,qg,qi];try (repeat' first|(with_reducible refine And.intro ?_ ?_)|(apply qd;omega)|(apply qa;rfl)|exact VLe.refl _))
 have k1:((i:Int)<l.length)=False:=eq_false (by omega)
 obtain rfl:i=l.length:=by omega
 rw [eM]
 simp (disch:=omega) only [List.replicate,qy,k1,eM,go_sem]
 repeat' first
  |((first|apply qc|apply qb);exact rvk;simp only [go_sem];first|exact VLe.refl _|apply qd|apply qa|apply qe|skip)
  |with_reducible first|refine And.intro ?_ ?_|intro _
 all_goals try exact clz
 rw [if_pos (by omega)]
 exact jd _ (fun n=>rfl) rfl
end RC
end
section
open Go Go.Proofs AF HY LN
namespace RC
set_option maxHeartbeats 4000000
theorem kN {a b:En}:qaq a b=true↔a.frm<b.frm∨a.frm=b.frm∧a.to<b.to:=by
 unfold qaq
 simp [Bool.or_eq_true,Bool.and_eq_true]
theorem qaV {a b:En}:qaq a b=false↔b.frm<a.frm∨a.frm=b.frm∧b.to≤a.to:=by
 have:= @kN a b
 cases h:qaq a b with
 |true=>rw [h]at this;simp only [true_iff]at this;simp only [Bool.true_eq_false,false_iff];omega
 |false=>rw [h]at this;simp only [Bool.false_eq_true,false_iff]at this;simp only [true_iff];omega
theorem qc2:qtt qaq:=by
 intro a b c h1 h2
 rw [qaV]at*
 omega
theorem qc1:Asy qaq:=by
 intro a b h
 rw [kN]at h
 rw [qaV]
 omega
def zX (l:List En):List En:=(kr qaq [] l).reverse
def qar (names:List Str) (gs:List Gr) (src:Int) (e:En):Bool:=decide (0≤vIx names gs e src)
def ofE (names:List Str) (gs:List Gr) (l:List En) (src:Int):List En:=(zX l).filter (qar names gs src)
theorem qrS (names:List Str) (gs:List Gr) (l:List En) (src:Int):(qvY names gs l src l.length).map (qrd l)=l.filter (qar names gs src):=by
 unfold qvY
 rw [List.map_map]
 have e:(qrd l∘Int.ofNat)=fun i=>l.getD i default:=by funext i;simp [qrd]
 rw [e]
 have e2:(List.range l.length).map (fun i=>l.getD i default)=l:=by
  apply List.ext_getElem (by simp)
  intro i h1 h2
  simp at h1
  simp [gdqA,h1]
 have e3:l.filter (qar names gs src)=((List.range l.length).map (fun i=>l.getD i default)).filter (qar names gs src):=by rw [e2]
 rw [e3,List.filter_map]
 rfl
theorem qk8 (names:List Str) (gs:List Gr) (l:List En) (src:Int):(qbq names gs l src l.length).map (qrd l)=ofE names gs l src:=by
 unfold qbq ofE zX
 rw [List.map_reverse,qeb (lt:=qqy l) (lu:=qaq) (qrd l) (fun _ _=>rfl),qrS,List.filter_reverse,qbi qc2 qc1 _ _ _ List.Pairwise.nil]
 rfl
theorem qkr {α:Type} {lt:α→α→Bool} {x:α}: ∀l:List α,(kq lt x l).Perm (x::l):=by
 intro l
 induction l with
 |nil=>exact List.Perm.refl _
 |cons y r ih=>
  unfold kq
  split
  ·exact (List.Perm.cons y ih).trans (List.Perm.swap x y r)
  ·exact List.Perm.refl _
theorem qcV {α:Type} {lt:α→α→Bool}: ∀l acc:List α,(kr lt acc l).Perm (acc++l):=by
 intro l
 induction l with
 |nil=>intro acc;rw [List.append_nil];exact List.Perm.refl _
 |cons x r ih=>
  intro acc
  refine (ih _).trans ((List.Perm.append_right r (qkr acc)).trans ?_)
  exact (List.perm_middle (a:=x) (l₁:=acc) (l₂:=r)).symm
theorem zO (l:List En):(zX l).Perm l:=(List.reverse_perm _).trans (by simpa using qcV (lt:=qaq) l [])
theorem kU (l:List En):(zX l).length=l.length:=(zO l).length_eq
theorem qfv (l:List En):(zX l).Pairwise fun a b=>qaq b a=false:=by
 unfold zX
 rw [List.pairwise_reverse]
 exact qez qc2 qc1 l [] List.Pairwise.nil
def jb (a b:En):Bool:=decide (b.frm<a.to)||decide (a.frm=b.frm)&&decide (a.to=b.to)
def zQ:List En→Bool
 |a::b::r=>jb a b||zQ (b::r)
 |_=>false
theorem qb3 (L:List En):zQ L=true↔ ∃i,i+1<L.length∧jb (L.getD i default) (L.getD (i+1) default)=true:=by
 induction L with
 |nil=>simp [zQ]
 |cons a L ih=>
  cases L with
  |nil=>simp [zQ]
  |cons b r=>
   rw [zQ,Bool.or_eq_true,ih]
   constructor
   ·rintro (h|⟨i,h1,h2⟩)
    ·exact ⟨0,by simp,h⟩
    ·exact ⟨i+1,by simpa using h1,h2⟩
   ·rintro ⟨i,h1,h2⟩
    cases i with
    |zero=>exact .inl h2
    |succ i=>exact .inr ⟨i,by simpa using h1,h2⟩
def zL (names:List Str) (gs:List Gr) (l:List En):Bool:=zS (fun s=>zQ (ofE names gs l (s:Int))) names.length
def rdE (names:List Str) (gs:List Gr) (t:List Str) (l:List En):Int:=
 if sgE names gs≠0 then 1 else if 4096<l.length then 4 else
  if qab (fun i=>kX names gs t (l.getD i default)) 0 l.length≠0 then qab (fun i=>kX names gs t (l.getD i default)) 0 l.length else
   if zL names gs l=true then 17 else 0
def qij (names:List Str) (gs:List Gr) (e:En) (src:Int):List Str:=(e.vars.getD (vIx names gs e src).toNat default).words
def qpi (names:List Str) (gs:List Gr) (t:List Str) (src:Int):List En→Nat→List Str
 | [],k=>t.drop k
 |e::r,k=>j8 t k e.frm.toNat++(qij names gs e src++qpi names gs t src r e.to.toNat)
def qio (names:List Str) (gs:List Gr) (t:List Str) (l:List En) (src:Int):List Str:=qpi names gs t src (ofE names gs l src) 0
end RC
end
section
open Go Go.Proofs AF HY LN
namespace RC
set_option maxHeartbeats 4000000
def zP (L:List En):List AV:=L.flatMap enC
theorem qaY (e:En):(enC e).length=6:=rfl
theorem kc (L:List En):(zP L).length=L.length*6:=by
 unfold zP
 induction L with
 |nil=>rfl
 |cons a L ih=>rw [List.flatMap_cons,List.length_append,ih,List.length_cons,qaY];omega
theorem qaz (A B:List En):zP (A++B)=zP A++zP B:=by simp [zP]
theorem qnq (a:En):zP [a]=enC a:=by simp [zP]
theorem qjT (L:List En): ∀i,(zP L).take (i*6)=zP (L.take i):=by
 induction L with
 |nil=>intro i;simp [zP]
 |cons a L ih=>
  intro i
  cases i with
  |zero=>simp [zP]
  |succ i=>
   have e:zP (a::L)=enC a++zP L:=rfl
   rw [List.take_succ_cons,e,List.take_append,qaY,show (i+1)*6-6=i*6 by omega,ih]
   rw [List.take_of_length_le (by rw [qaY];omega)]
   rfl
theorem qdX (L:List En): ∀i,(zP L).drop (i*6)=zP (L.drop i):=by
 induction L with
 |nil=>intro i;simp [zP]
 |cons a L ih=>
  intro i
  cases i with
  |zero=>simp
  |succ i=>
   have e:zP (a::L)=enC a++zP L:=rfl
   rw [List.drop_succ_cons,e,List.drop_append,qaY,show (i+1)*6-6=i*6 by omega,ih]
   rw [List.drop_eq_nil_of_le (by rw [qaY];omega)]
   rfl
theorem qc8 {L:List En} {i:Nat} (hi:i<L.length):((zP L).drop (i*6)).take 6=enC (L.getD i default):=by
 rw [qdX,List.drop_eq_getElem_cons hi,gdqA,qR hi]
 rfl
theorem qf3 {L:List En} {i:Nat} (e:En) (hi:i<L.length):(zP L).take (i*6)++enC e++(zP L).drop (i*6+6)=zP (L.set i e):=by
 rw [List.set_eq_take_append_cons_drop,if_pos hi,show i*6+6=(i+1)*6 by omega,qjT,qdX,qaz]
 rw [show e::List.drop (i+1) L= [e]++List.drop (i+1) L from rfl,qaz,qnq,List.append_assoc]
theorem qnG (L:List En):((List.range L.length).flatMap fun i=>enC (L.getD i default))=zP L:=by
 unfold zP
 have e:L=(List.range L.length).map fun i=>L.getD i default:=by
  apply List.ext_getElem (by simp)
  intro i h1 h2
  simp [gdqA,h1]
 conv=>rhs;rw [e]
 rw [List.flatMap_map]
theorem qlU (h:List AObj) (L:List En):qs h (qy L)=some (L.length,zP L):=by
 show some (L.length,_)=_
 rw [qnG]
theorem qbM (L:List En) (n:Nat): ∀c∈zP L,zE n c=true:=by
 intro c hc
 unfold zP at hc
 obtain ⟨x,_,hx⟩:=List.mem_flatMap.1 hc
 unfold enC at hx
 simp only [List.mem_cons,List.not_mem_nil,or_false]at hx
 rcases hx with rfl|rfl|rfl|rfl|rfl|rfl<;>rfl
def kh (M:List En) (x:En) (j:Nat) (r:List En):List En:=M.take j++x::(M.drop j++r)
theorem qkp {M:List En} {x:En} {j:Nat} {r:List En} (hj:j≤M.length):(kh M x j r).length=M.length+1+r.length:=by
 unfold kh;simp;omega
theorem qrJ {M:List En} {x:En} {j:Nat} {r:List En} (hj:j≤M.length):(kh M x j r).getD j default=x:=by
 unfold kh
 have l1:(M.take j).length=j:=by rw [List.length_take];omega
 rw [gdqA,List.getElem?_append_right (by omega),l1,Nat.sub_self]
 rfl
theorem qrK {M:List En} {x:En} {j:Nat} {r:List En} (hj:j+1≤M.length):(kh M x (j+1) r).getD j default=M.getD j default:=by
 unfold kh
 have l1:(M.take (j+1)).length=j+1:=by rw [List.length_take];omega
 rw [gdqA,List.getElem?_append_left (by omega),List.getElem?_take,if_pos (by omega),←gdqA]
theorem qhl {M:List En} {x:En} {j:Nat} {r:List En} (hj:j+1≤M.length):((kh M x (j+1) r).set (j+1) (M.getD j default)).set j x=kh M x j r:=by
 have l1:(M.take (j+1)).length=j+1:=by rw [List.length_take];omega
 have l2:(M.take j).length=j:=by rw [List.length_take];omega
 have hl:j<M.length:=by omega
 have hY:M.getD j default=M[j]:=by rw [gdqA,qR hl];rfl
 unfold kh
 rw [List.set_append_right _ _ (by omega),l1,Nat.sub_self,List.set_cons_zero,hY,List.take_succ_eq_append_getElem hl,List.append_assoc,List.set_append_right _ _ (by omega),l2,Nat.sub_self,List.singleton_append,List.set_cons_zero,List.drop_eq_getElem_cons hl]
 rfl
def qgo (l:List En) (i:Nat):List En:=(kr qaq [] (l.take i)).reverse
theorem qdn {l:List En} {i:Nat} (hi:i≤l.length):(qgo l i).length=i:=by
 unfold qgo
 rw [List.length_reverse,(qcV (lt:=qaq) (l.take i) []).length_eq,List.nil_append,List.length_take]
 omega
theorem qlp {l:List En} {i:Nat} (hi:i<l.length):qgo l (i+1)=(kq qaq (l.getD i default) (qgo l i).reverse).reverse:=by
 unfold qgo
 rw [List.take_succ_eq_append_getElem hi,qey,List.reverse_reverse,gdqA,qR hi]
 rfl
theorem qoz (l:List En):qgo l l.length=zX l:=by unfold qgo zX;rw [List.take_length]
def qn1 (l:List En) (i:Nat):List En:=qgo l i++l.drop i
theorem qrL {l:List En} {i:Nat} (hi:i<l.length):qn1 l i=kh (qgo l i) (l.getD i default) i (l.drop (i+1)):=by
 unfold qn1 kh
 have h1:=qdn (l:=l) (i:=i) (by omega)
 have h2:List.drop i (qgo l i)= []:=List.drop_eq_nil_of_le (by omega)
 rw [List.take_of_length_le (by omega),h2,List.nil_append,List.drop_eq_getElem_cons hi,gdqA,qR hi]
 rfl
theorem qn2 {l:List En} {i j:Nat} (hi:i<l.length) (hj:j≤i) (h1: ∀k,j≤k→k<i→qaq (l.getD i default) ((qgo l i).getD k default)=true) (h2:j=0∨qaq (l.getD i default) ((qgo l i).getD (j-1) default)=false):
  kh (qgo l i) (l.getD i default) j (l.drop (i+1))=qn1 l (i+1):=by
 have hl:=qdn (l:=l) (i:=i) (by omega)
 unfold qn1
 rw [qlp hi,qks (d:=default) (k:=j) (by omega) (fun k hk hk2=>h1 k hk (by omega)) h2]
 unfold kh
 simp
theorem qn3 {l:List En} (h:0<l.length):qn1 l 1=l:=by
 cases l with
 |nil=>simp at h
 |cons a l=>rfl
theorem qjI (a b:En):qqN a b<0↔qaq a b=true:=by
 rw [kN]
 unfold qqN qdC
 by_cases h1:a.frm<b.frm
 ·simp [h1]
 ·by_cases h2:b.frm<a.frm
  ·simp [h1,h2];omega
  ·by_cases h3:a.to<b.to
   ·simp [h1,h2,h3];omega
   ·by_cases h4:b.to<a.to
    ·simp [h1,h2,h3,h4]
    ·simp [h1,h2,h3,h4]
end RC
end
section
open Go Go.Proofs AF HY LN
namespace RC
set_option maxHeartbeats 4000000
theorem qcE {a:En} {r:List En} (h:zQ (a::r)=false):zQ r=false:=by
 cases r with
 |nil=>rfl
 |cons b r=>rw [zQ,Bool.or_eq_false_iff]at h;exact h.2
theorem qlZ {L:List En} (hs:L.Pairwise fun a b=>qaq b a=false) (hc:zQ L=false):L.Pairwise fun a b=>qaq a b=true:=by
 induction L with
 |nil=>exact List.Pairwise.nil
 |cons a r ih=>
  obtain ⟨h1,h2⟩:=List.pairwise_cons.1 hs
  have h3:=ih h2 (qcE hc)
  refine List.pairwise_cons.2 ⟨?_,h3⟩
  cases r with
  |nil=>intro z hz;cases hz
  |cons b r=>
   have hab:qaq a b=true:=by
    rw [zQ,Bool.or_eq_false_iff]at hc
    have h5:=hc.1
    unfold jb at h5
    rw [Bool.or_eq_false_iff,Bool.and_eq_false_imp,decide_eq_false_iff_not,decide_eq_true_iff,decide_eq_false_iff_not]at h5
    have h4:=h1 b (by simp)
    rw [qaV]at h4
    rw [kN]
    obtain ⟨h5,h6⟩:=h5
    by_cases e:a.frm=b.frm
    ·have:=h6 e;omega
    ·omega
   intro z hz
   rcases List.mem_cons.1 hz with rfl|hz
   ·exact hab
   ·have h6:=(List.pairwise_cons.1 h3).1 z hz
    rw [kN]at*
    omega
theorem qnc {L:List En} (hc:zQ L=false) {i:Nat} (hi:i+1<L.length):(L.getD i default).to≤(L.getD (i+1) default).frm:=by
 cases h:jb (L.getD i default) (L.getD (i+1) default)with
 |true=>rw [(qb3 L).2 ⟨i,hi,h⟩]at hc;cases hc
 |false=>
  unfold jb at h
  rw [Bool.or_eq_false_iff,decide_eq_false_iff_not]at h
  omega
theorem qhs (names:List Str) (gs:List Gr) (l:List En) (src:Int):(ofE names gs l src).Pairwise fun a b=>qaq b a=false:=List.Pairwise.filter _ (qfv l)
theorem kZ {names:List Str} {gs:List Gr} {l:List En} (h:zL names gs l=false) {s:Nat} (hs:s<names.length):zQ (ofE names gs l (s:Int))=false:=
 qD.1 h s hs
structure qeJ (names:List Str) (gs:List Gr) (t:List Str) (l:List En):Prop where
 sg:sgE names gs=0
 n:l.length≤4096
 ck: ∀e∈l,kX names gs t e=0
 cl:zL names gs l=false
theorem qgs {names:List Str} {gs:List Gr} {t:List Str} {l:List En}:rdE names gs t l=0↔qeJ names gs t l:=by
 have key:(∀e∈l,kX names gs t e=0)↔qab (fun i=>kX names gs t (l.getD i default)) 0 l.length=0:=by
  rw [kg]
  constructor
  ·intro h i hi
   refine h _ ?_
   rw [gdqA,qR hi]
   exact List.getElem_mem hi
  ·intro h e he
   obtain ⟨i,hi,rfl⟩:=List.getElem_of_mem he
   have:=h i hi
   rw [gdqA,qR hi]at this
   exact this
 unfold rdE
 constructor
 ·intro h
  split at h
  ·cases h
  rename_i h1
  split at h
  ·cases h
  rename_i h2
  split at h
  ·rename_i h3;exact absurd h h3
  rename_i h3
  split at h
  ·cases h
  rename_i h4
  exact ⟨Classical.not_not.1 h1,by omega,key.2 (Classical.not_not.1 h3),by simpa using h4⟩
 ·rintro ⟨h1,h2,h3,h4⟩
  rw [if_neg (fun hc=>hc h1),if_neg (by omega),if_neg (fun hc=>hc (key.1 h3)),if_neg (by rw [h4];simp)]
structure qxn (names:List Str) (gs:List Gr) (t:List Str) (e:En):Prop where
 sg:sgE names gs=0
 tn:t.length≤4096
 tw:jO t=0
 lay:0≤e.layer∧e.layer<16
 rng:0≤e.frm∧e.frm≤e.to∧e.to≤t.length
 sp:0<e.sup.length→e.pos=true
 ne:e.vars.length≠0
 va: ∀i,i<e.vars.length→qbG t e i=0
 es:ji names gs e.sup=0
 ev: ∀i,i<e.vars.length→ji names gs (e.vars.getD i default).sigla=0
 tc:(zZ names gs e e.vars.length).2=false
theorem jh {names:List Str} {gs:List Gr} {t:List Str} {e:En}:kX names gs t e=0↔qxn names gs t e:=by
 unfold kX
 constructor
 ·intro h
  split at h
  ·cases h
  rename_i h1
  split at h
  ·cases h
  rename_i h2
  split at h
  ·cases h
  rename_i h3
  split at h
  ·cases h
  rename_i h4
  split at h
  ·cases h
  rename_i h5
  split at h
  ·cases h
  rename_i h6
  split at h
  ·rename_i h7;exact absurd h h7
  rename_i h7
  split at h
  ·rename_i h8;exact absurd h h8
  rename_i h8
  split at h
  ·rename_i h9;exact absurd h h9
  rename_i h9
  split at h
  ·cases h
  rename_i h10
  unfold qin at h4
  refine ⟨Classical.not_not.1 h1,by omega,Classical.not_not.1 h3,by omega,by omega,fun h=> ?_,h6,kg.1 (Classical.not_not.1 h7),Classical.not_not.1 h8,kg.1 (Classical.not_not.1 h9),?_⟩
  ·cases hp:e.pos with
   |true=>rfl
   |false=>exact absurd ⟨h,hp⟩ h5
  ·rw [jQ]at h10
   simpa using h10
 ·rintro ⟨h1,h2,h3,h4,h5,h6,h7,h8,h9,h10,h11⟩
  have hr: ¬qin t e:=by unfold qin;omega
  rw [if_neg (fun hc=>hc h1),if_neg (by omega),if_neg (fun hc=>hc h3),if_neg hr,if_neg (by rintro ⟨a,b⟩;rw [h6 a]at b;cases b),if_neg h7,if_neg (fun hc=>hc (qC (f:=qbG t e) h8)),if_neg (fun hc=>hc h9),
   if_neg (fun hc=>hc (qC (f:=fun i=>ji names gs (e.vars.getD i default).sigla) h10)),if_neg (by rw [jQ,h11];simp)]
theorem qaU (names:List Str) (gs:List Gr) (e:En): ∀i,(zZ names gs e i).2=false→ ∀x:Int,(x∈(zZ names gs e i).1↔x∈zg names gs e.sup∨ ∃j,j<i∧x∈zg names gs (e.vars.getD j default).sigla):=by
 intro i
 induction i with
 |zero=>intro _ x;simp [zZ]
 |succ i ih=>
  intro h x
  rw [zW]at h ⊢
  simp only [Bool.or_eq_false_iff]at h
  have hi:=ih h.1 x
  have hb1:x∈(zZ names gs e i).1→0≤x∧x<64:=fun hx=>zI (kK (qeL names gs e i).1).1 x hx
  have hb2:x∈zg names gs (e.vars.getD i default).sigla→0≤x∧x<64:=fun hx=>zI (kK (kO names gs _).1).1 x hx
  have hm:x∈qY (fun k=>decide ((k:Int)∈(zZ names gs e i).1)||decide ((k:Int)∈zg names gs (e.vars.getD i default).sigla)) 64↔x∈(zZ names gs e i).1∨x∈zg names gs (e.vars.getD i default).sigla:=by
   unfold qY
   rw [List.mem_map]
   constructor
   ·rintro ⟨k,hk,rfl⟩
    have:=(List.mem_filter.1 hk).2
    simpa [Bool.or_eq_true] using this
   ·intro hx
    have hb:0≤x∧x<64:=hx.elim hb1 hb2
    refine ⟨x.toNat,List.mem_filter.2 ⟨List.mem_range.2 (by omega),?_⟩,by simp;omega⟩
    rw [show ((x.toNat:Nat):Int)=x by omega]
    simpa [Bool.or_eq_true] using hx
  simp only [hm,hi]
  constructor
  ·rintro ((h|⟨j,hj,hx⟩)|hx)
   ·exact .inl h
   ·exact .inr ⟨j,by omega,hx⟩
   ·exact .inr ⟨i,by omega,hx⟩
  ·rintro (h|⟨j,hj,hx⟩)
   ·exact .inl (.inl h)
   ·by_cases e':j=i
    ·subst e';exact .inr hx
    ·exact .inl (.inr ⟨j,by omega,hx⟩)
theorem qbJ (names:List Str) (gs:List Gr) (e:En) {i k:Nat} (hik:i≤k) (h:(zZ names gs e k).2=false):(zZ names gs e i).2=false:=by
 induction hik with
 |refl=>exact h
 |step _ ih=>rw [zW]at h;simp only [Bool.or_eq_false_iff]at h;exact ih h.1
theorem qbW {names:List Str} {gs:List Gr} {e:En} {n:Nat} (h:(zZ names gs e n).2=false) {i k:Nat} (hik:i<k) (hk:k<n) {x:Int} (hx:x∈zg names gs (e.vars.getD i default).sigla): ¬x∈zg names gs (e.vars.getD k default).sigla:=by
 have h1:=qbJ names gs e (show k+1≤n from hk) h
 have h0:=qbJ names gs e (show k≤n by omega) h
 rw [zW]at h1
 simp only [Bool.or_eq_false_iff,List.any_eq_false]at h1
 have:=h1.2 x ((qaU names gs e k h0 x).2 (.inr ⟨i,hik,hx⟩))
 simpa using this
theorem qqp {names:List Str} {gs:List Gr} {e:En} {n:Nat} (h:(zZ names gs e n).2=false) {k:Nat} (hk:k<n) {x:Int} (hx:x∈zg names gs e.sup): ¬x∈zg names gs (e.vars.getD k default).sigla:=by
 have h1:=qbJ names gs e (show k+1≤n from hk) h
 have h0:=qbJ names gs e (show k≤n by omega) h
 rw [zW]at h1
 simp only [Bool.or_eq_false_iff,List.any_eq_false]at h1
 have:=h1.2 x ((qaU names gs e k h0 x).2 (.inl hx))
 simpa using this
end RC
end
section
open Go Go.Proofs AF HY LN
namespace RC
set_option maxHeartbeats 8000000
section
variable {k v w : Nat} {h : List AObj} {o o' : AObj} {ty : TypeId} {cs : List AV}
theorem cellsOf_setm (hk:k<h.length):cellsOf (qE k h (.mem w ty cs)) k v=if w=v then some cs else none:=by
 have:=qeV (l:= []) (v:=v) (w:=w) (ty:=ty) (cs:=cs) hk
 simpa using this
theorem setO_setm:qE k (qE k h o) o'=qE k h o':=qeu
theorem tyOf_setm (hk:k<h.length):qwz (qA k (qE k h (.mem w ty cs)))=ty:=by rw [jc hk];rfl
end
attribute [go_sem] cellsOf_setm setO_setm tyOf_setm
theorem qdi {k v:Nat} {h:List AObj} {ty:TypeId} {cs:List AV} (hl: ∀n,∀c∈cs,zE n c=true): ∀o∈qE k h (.mem v ty cs),o∈h∨qai h.length o:=by
 intro o ho
 rcases qaJ ho with h1|rfl
 ·exact .inl h1
 ·exact .inr (fun c hc=>hl _ c hc)
theorem qAI (l:List En) (k v:Nat) (ty:TypeId) (h:List AObj) (hk:qA k h=some (.mem v ty (zP l))) (hl:l.length≤1000000) (h0:0<l.length):
  qm Tryz.prog 147 [.osl k v 6 0 l.length,.int .i64 0,.int .i64 l.length,.fn (.func 80) [] []] h (.tup []) (qE k h (.mem v ty (zP (zX l)))):=by
 have c80:=fun a b h=>qxQ a b h
 have hkl:=zN hk
 have e0:h=qE k h (.mem v ty (zP (qn1 l 1))):=by rw [qn3 h0];exact (qet hk).symm
 obtain ⟨n,hn⟩: ∃n,n=l.length:=⟨_,rfl⟩
 rw [←hn]at hl h0 ⊢
 refine acO qpR ?_
 simp (disch:=omega) only [qqE,List.replicate,go_sem]
 repeat' first
  |((first|apply qc|apply qb);exact rvk;simp only [go_sem];first|exact VLe.refl _|apply qd|apply qa|apply qe|skip)
  |with_reducible first|refine And.intro ?_ ?_|intro _
 all_goals try exact clz
 refine qn (T:=fun i:Nat=>qI 53 [(0,.osl k v 6 0 n),(1,.int .i64 0),(2,.int .i64 n),(3,.fn (.func 80) [] []),(8,.int .i64 i)]) (H:=fun i=>qE k h (.mem v ty (zP (qn1 l i))))
  (inv:=fun i=>1≤i∧i≤n) (m:=fun i=>n-i) 1 ⟨by omega,by omega⟩ ?_ ?_
 ·rw [←e0]
  refine Wk.temps ?_
  (simp only [List.replicate,go_sem,qj,qh,qg,qi];try (repeat' first|(with_reducible refine And.intro ?_ ?_)|(apply qd;omega)|(apply qa;rfl)|exact VLe.refl _))
 rintro i ⟨i1,i2⟩ K hK
 by_cases hi:i<n
 ·have q0:((i:Int)<n)=True:=eq_true (by omega)
  simp (disch:=omega) only [List.replicate,q0,go_sem]
  repeat' first
   |((first|apply qc|apply qb);exact rvk;simp only [go_sem];first|exact VLe.refl _|apply qd|apply qa|apply qe|skip)
   |with_reducible first|refine And.intro ?_ ?_|intro _
  all_goals try exact clz
  have hil:i<l.length:=by omega
  have hst:=qrL hil
  have hend:=fun j=>qn2 (l:=l) (i:=i) (j:=j) hil
  have hML:=qdn (l:=l) (i:=i) (by omega)
  obtain ⟨x,hx⟩: ∃x,x=l.getD i default:=⟨_,rfl⟩
  obtain ⟨M,hM⟩: ∃M,M=qgo l i:=⟨_,rfl⟩
  obtain ⟨r,hr⟩: ∃r,r=l.drop (i+1):=⟨_,rfl⟩
  have hrl:r.length=n-(i+1):=by rw [hr,List.length_drop,hn]
  rw [←hx,←hM,←hr]at hst
  simp only [←hx,←hM,←hr]at hend
  rw [←hM]at hML
  refine qn (T:=fun j:Nat=>qI 53 [(0,.osl k v 6 0 n),(1,.int .i64 0),(2,.int .i64 n),(3,.fn (.func 80) [] []),(8,.int .i64 i),(9,.int .i64 j)]) (H:=fun j=>qE k h (.mem v ty (zP (kh M x j r))))
   (inv:=fun j=>j≤i∧ ∀u,j≤u→u<i→qaq x (M.getD u default)=true) (m:=fun j=>j) i ⟨Nat.le_refl _,fun u h1 h2=>by omega⟩ ?_ ?_
  ·rw [hst]
   refine Wk.temps ?_
   (simp only [List.replicate,go_sem,qj,qh,qg,qi];try (repeat' first|(with_reducible refine And.intro ?_ ?_)|(apply qd;omega)|(apply qa;rfl)|exact VLe.refl _))
  rintro j ⟨j1,j2⟩ K2 hK2
  have eL:=qkp (M:=M) (x:=x) (j:=j) (r:=r) (by omega)
  have eC:=kc (kh M x j r)
  rw [eL]at eC
  cases j with
  |zero=>
   have z0:((0:Nat):Int)=0:=rfl
   have z1:((0:Int)<0)=False:=eq_false (by omega)
   rw [z0]
   simp (disch:=omega) only [List.replicate,z1,go_sem]
   repeat' first
    |(refine qo ( .bool false) ?_;simp (disch:=omega) only [z1,go_sem])
    |((first|apply qc|apply qb);exact rvk;simp only [go_sem];first|exact VLe.refl _|apply qd|apply qa|apply qe|skip)
    |with_reducible first|refine And.intro ?_ ?_|intro _
   all_goals try exact clz
   refine hK _ _ (i+1) ⟨by omega,by omega⟩ (by omega) ?_
   rw [hend 0 (Nat.zero_le _) j2 (.inl rfl)]
   refine Wk.temps ?_
   (simp only [List.replicate,go_sem,qj,qh,qg,qi];try (repeat' first|(with_reducible refine And.intro ?_ ?_)|(apply qd;omega)|(apply qa;rfl)|exact VLe.refl _))
  |succ m=>
   have ec:((m+1:Nat):Int)=(m:Int)+1:=by omega
   rw [ec]
   have q1:(0<(m:Int)+1)=True:=eq_true (by omega)
   have q2:((m:Int)+1<n)=True:=eq_true (by omega)
   have q3:((m:Int)<n)=True:=eq_true (by omega)
   have q4:(0≤(m:Int)+1)=True:=eq_true (by omega)
   have q5:(0≤(m:Int))=True:=eq_true (by omega)
   have rt1:((m:Int)+1).toNat=m+1:=by omega
   have g1:=qc8 (L:=kh M x (m+1) r) (i:=m+1) (by omega)
   have g2:=qc8 (L:=kh M x (m+1) r) (i:=m) (by omega)
   rw [qrJ (by omega)]at g1
   rw [qrK (by omega)]at g2
   have f1:((m+1)*6+6≤(M.length+1+r.length)*6)=True:=eq_true (by omega)
   have f2:(m*6+6≤(M.length+1+r.length)*6)=True:=eq_true (by omega)
   have f3:=qaY
   obtain ⟨y,hy⟩: ∃y,y=M.getD m default:=⟨_,rfl⟩
   rw [←hy]at g2
   have es1:=qf3 (L:=kh M x (m+1) r) (i:=m+1) y (by omega)
   have esw:=qhl (M:=M) (x:=x) (j:=m) (r:=r) (by omega)
   rw [←hy]at esw
   obtain ⟨zs,hzs⟩: ∃zs,zs=(kh M x (m+1) r).set (m+1) y:=⟨_,rfl⟩
   rw [←hzs]at es1 esw
   have ezl:zs.length=M.length+1+r.length:=by rw [hzs,List.length_set,eL]
   have eC2:=kc zs
   rw [ezl]at eC2
   have es2:=qf3 (L:=zs) (i:=m) x (by omega)
   rw [esw]at es2
   cases hlt:qaq x y with
   |true=>
    have hd:(qqN x y<0)=True:=eq_true ((qjI x y).2 hlt)
    simp (disch:=omega) only [List.replicate,q1,q2,q3,q4,q5,rt1,g1,g2,f1,f2,f3,Int.add_sub_cancel,Int.toNat_natCast,eC,go_sem]
    repeat' first
     |(refine jr (c80 _ _ _) ?_;simp (disch:=omega) only [q1,q2,q3,q4,q5,rt1,g1,g2,f1,f2,f3,Int.add_sub_cancel,Int.toNat_natCast,eC,eC2,hd,es1,es2,go_sem])
     |((first|apply qc|apply qb);exact rvk;simp only [go_sem];first|exact VLe.refl _|apply qd|apply qa|apply qe|skip)
     |with_reducible first|refine And.intro ?_ ?_|intro _
    all_goals try exact clz
    refine hK2 _ _ m ⟨by omega,fun u h1 h2=> ?_⟩ (by omega) (Wk.temps ?_)
    ·by_cases e:u=m
     ·subst e;rw [←hy];exact hlt
     ·exact j2 u (by omega) h2
    ·(simp only [List.replicate,go_sem,qj,qh,qg,qi];try (repeat' first|(with_reducible refine And.intro ?_ ?_)|(apply qd;omega)|(apply qa;rfl)|exact VLe.refl _))
   |false=>
    have hd:(qqN x y<0)=False:=eq_false (fun hc=>by rw [(qjI x y).1 hc]at hlt;cases hlt)
    simp (disch:=omega) only [List.replicate,q1,q2,q3,q4,q5,rt1,g1,g2,f1,f2,f3,Int.add_sub_cancel,Int.toNat_natCast,eC,go_sem]
    repeat' first
     |(refine jr (c80 _ _ _) ?_;simp (disch:=omega) only [q1,q2,q3,q4,q5,rt1,g1,g2,f1,f2,f3,Int.add_sub_cancel,Int.toNat_natCast,eC,hd,go_sem])
     |((first|apply qc|apply qb);exact rvk;simp only [go_sem];first|exact VLe.refl _|apply qd|apply qa|apply qe|skip)
     |with_reducible first|refine And.intro ?_ ?_|intro _
    all_goals try exact clz
    refine hK _ _ (i+1) ⟨by omega,by omega⟩ (by omega) ?_
    rw [hend (m+1) j1 j2 (.inr (by rw [show m+1-1=m by omega,←hy];exact hlt))]
    refine Wk.temps ?_
    (simp only [List.replicate,go_sem,qj,qh,qg,qi];try (repeat' first|(with_reducible refine And.intro ?_ ?_)|(apply qd;omega)|(apply qa;rfl)|exact VLe.refl _))
 ·have e:i=n:=by omega
  subst e
  have q0:((i:Int)<i)=False:=eq_false (by omega)
  simp (disch:=omega) only [List.replicate,q0,go_sem]
  repeat' first
   |((first|apply qc|apply qb);exact rvk;simp only [go_sem];first|exact VLe.refl _|apply qd|apply qa|apply qe|skip)
   |with_reducible first|refine And.intro ?_ ?_|intro _
  all_goals try exact clz
  have e2:qn1 l i=zX l:=by
   unfold qn1
   rw [hn,qoz,List.drop_length,List.append_nil]
  rw [e2]
  exact jT trivial qV (qdi (qbM _)) ⟨rfl,rfl⟩ (VLe.refl _)
end RC
end
section
open Go Go.Proofs AF HY LN
namespace AF
theorem jE {P:Program} {b:Nat} {x y z:C} {Q:Ex→Nx} {t:List AV} {h:List AObj} (H:qO P b ((x.seq y).seq z) Q t h):qO P b (x.seq (y.seq z)) Q t h:=by
 refine jS (x:=x) (fun e t h H=> ?_) H
 cases e with
 |normal=>exact H
 |ret=>exact H
 |exit id=>exact H
theorem qsx {P:Program} {b:Nat} {x y:C} {Q:Ex→Nx} {t:List AV} {h:List AObj} (I:List AV→List AObj→Prop) (hx: ∀K:Nx,(∀t h,I t h→K t h)→qO P b x (Ex.andThen K Q) t h)
  (hy: ∀t h,I t h→qO P b y Q t h):qO P b (x.seq y) Q t h:=hx _ hy
theorem Wk.cells {t:List AV} {h:List AObj} {j v:Nat} {ty:TypeId} {cs cs':List AV} (hj:qA j h=some (.mem v ty cs)) (hc:kw cs cs'):Wk t h t (qE j h (.mem v ty cs')):=by
 intro N w σ a H
 have hjl:j<σ.length:=by rw [H.hr.len];exact zN hj
 have ho:=qR hjl
 obtain ⟨m1,m2,b,arr,m3,m4,m5,m6,m7,m8⟩:=H.hr.obj j _ _ hj ho
 have q:=H.hr.recell (cs':=cs') hj ho m3 m4 m5 (by rw [hc.length];exact m6) (fun i x hi hx=>m7 i x (by rw [←hc.length];exact hi) hx) (fun i c x hi hx=>by
  obtain ⟨c0,h1,h2⟩:=hc.get i c hi
  exact h2 _ _ _ (m8 i c0 x h1 hx))
 exact ⟨σ,⟨q,H.sz,H.tm,H.df⟩,Ext.refl _ _⟩
end AF
namespace RC
set_option maxHeartbeats 4000000
theorem qA2 (l:List En) (k v:Nat) (ty:TypeId) (h:List AObj) (hk:qA k h=some (.mem v ty (zP l))) (hl:l.length<20) (h0:0<l.length):
  qm Tryz.prog 120 [.osl k v 6 0 l.length,.int .i64 l.length,.fn (.func 80) [] []] h (.tup []) (qE k h (.mem v ty (zP (zX l)))):=by
 have c147:=qAI l k v ty h hk (by omega) h0
 have q1:((20:Int)≤l.length)=False:=eq_false (by omega)
 have q2:((20:Int)<l.length)=False:=eq_false (by omega)
 refine acO qpN ?_
 simp (disch:=omega) only [qqA,List.replicate,go_sem]
 repeat' first
  |((first|apply qc|apply qb);exact rvk;simp only [go_sem];first|exact VLe.refl _|apply qd|apply qa|apply qe|skip)
  |with_reducible first|refine And.intro ?_ ?_|intro _
 all_goals try exact clz
 refine qn (T:=fun _:Unit=>qI 63 [(0,.osl k v 6 0 l.length),(1,.int .i64 l.length),(2,.fn (.func 80) [] []),(6,.int .i64 20),(7,.int .i64 0),(8,.int .i64 20)]) (H:=fun _=>h) (inv:=fun _=>True) (m:=fun _=>0) () trivial (Wk.temps ?_) ?_
 ·(simp only [List.replicate,go_sem,qj,qh,qg,qi];try (repeat' first|(with_reducible refine And.intro ?_ ?_)|(apply qd;omega)|(apply qa;rfl)|exact VLe.refl _))
 rintro _ _ K hK
 simp (disch:=omega) only [List.replicate,q1,go_sem]
 repeat' first
  |((first|apply qc|apply qb);exact rvk;simp only [go_sem];first|exact VLe.refl _|apply qd|apply qa|apply qe|skip)
  |with_reducible first|refine And.intro ?_ ?_|intro _
 all_goals try exact clz
 refine zq c147 (by exact flk) ?_
 simp (disch:=omega) only [go_sem]
 repeat' first
  |((first|apply qc|apply qb);exact rvk;simp only [go_sem];first|exact VLe.refl _|apply qd|apply qa|apply qe|skip)
  |with_reducible first|refine And.intro ?_ ?_|intro _
 all_goals try exact clz
 refine qn (T:=fun _:Unit=>qI 63 [(0,.osl k v 6 0 l.length),(1,.int .i64 l.length),(2,.fn (.func 80) [] []),(6,.int .i64 20)]) (H:=fun _=>qE k h (.mem v ty (zP (zX l)))) (inv:=fun _=>True) (m:=fun _=>0) () trivial (Wk.temps ?_) ?_
 ·(simp only [List.replicate,go_sem,qj,qh,qg,qi];try (repeat' first|(with_reducible refine And.intro ?_ ?_)|(apply qd;omega)|(apply qa;rfl)|exact VLe.refl _))
 rintro _ _ K2 hK2
 simp (disch:=omega) only [List.replicate,q2,go_sem]
 repeat' first
  |((first|apply qc|apply qb);exact rvk;simp only [go_sem];first|exact VLe.refl _|apply qd|apply qa|apply qe|skip)
  |with_reducible first|refine And.intro ?_ ?_|intro _
 all_goals try exact clz
 exact jT trivial qV (qdi (qbM _)) ⟨rfl,rfl⟩ (VLe.refl _)
theorem qA0 (l:List En) (k v:Nat) (ty:TypeId) (h:List AObj) (hk:qA k h=some (.mem v ty (zP l))) (hl:l.length<20) (h0:0<l.length):
  qm Tryz.prog 79 [.osl k v 6 0 l.length,.fn (.func 80) [] []] h (.tup []) (qE k h (.mem v ty (zP (zX l)))):=by
 have c120:=qA2 l k v ty h hk hl h0
 have hv:ze h k v=true:=by rw [qea,hk];simp [qge]
 refine acO qvx ?_
 simp (disch:=omega) only [qxI,List.replicate,hv,go_sem]
 repeat' first
  |((first|apply qc|apply qb);exact rvk;simp only [go_sem];first|exact VLe.refl _|apply qd|apply qa|apply qe|skip)
  |with_reducible first|refine And.intro ?_ ?_|intro _
 all_goals try exact clz
 refine zq c120 (by exact flk) ?_
 simp (disch:=omega) only [go_sem]
 repeat' first
  |((first|apply qc|apply qb);exact rvk;simp only [go_sem];first|exact VLe.refl _|apply qd|apply qa|apply qe|skip)
  |with_reducible first|refine And.intro ?_ ?_|intro _
 all_goals try exact clz
 exact jT trivial qV (qdi (qbM _)) ⟨rfl,rfl⟩ (VLe.refl _)
theorem qkx {L:List En} (h:L≠ []):valP (.isnil .slice false) [qy L]= .bool false:=by
 unfold qy
 rw [qaQ,if_neg (by simpa using h)]
 rfl
theorem qAo (h:List AObj):qm Tryz.prog 31 [qy []] h (qy []) h:=by
 have s1:=fun h=>qlU h []
 have z0:valP (.isnil .slice false) [qy []]= .anyb:=rfl
 have z1:okP (.isnil .slice false) [qy []]=True:=eq_true trivial
 have e0:zP []= []:=rfl
 refine acO qvj ?_
 simp (disch:=omega) only [qxw,List.replicate,s1,z0,z1,e0,go_sem]
 repeat' first
  |((first|apply qc|apply qb);exact rvk;simp only [go_sem];first|exact VLe.refl _|apply qd|apply qa|apply qe|skip)
  |with_reducible first|refine And.intro ?_ ?_|intro _
 all_goals try exact clz
 ·exact jn
 ·rfl
 ·exact VLe.sl_eq rfl (fun i hi=>absurd hi (by simp))
theorem qAn (L:List En) (h:List AObj) (k:Nat) (hk:qH h k=true) (h0:L≠ []) (hl:L.length≤1000000):
  qm Tryz.prog 31 [qy L] h (.osl k (qv (qA k h)+1) 6 0 L.length) (qE k h (.mem (qv (qA k h)+1) 49 (zP L))):=by
 have s1:=fun h=>qlU h L
 have eP:=kc L
 have hp:=List.length_pos_iff.2 h0
 have z0:=qkx h0
 have z1:okP (.isnil .slice false) [qy L]=True:=eq_true trivial
 refine qqo qvj k (by simp) ?_
 simp only [List.length_cons,List.length_nil,Nat.reduceAdd,Nat.reduceSub,List.replicate,List.cons_append,List.nil_append,List.append_nil]
 simp (disch:=omega) only [qxw,s1,z0,z1,go_sem]
 repeat' first
  |(with_reducible refine And.intro ?_ ?_)
  |(with_reducible intro _)
 all_goals first
  |omega
  |contradiction
  |skip
 ·rfl
 exact ⟨h.length+1,2,6,0,L.length,49,zP L,_,⟨trivial,trivial⟩,rfl,rfl,by omega,by simp only [go_sem],qbM L _,hk,rfl,rfl⟩
end RC
end
section
open Go Go.Proofs AF HY LN
namespace RC
set_option maxHeartbeats 4000000
theorem qqt (L:List Int) (src:Int):zS (fun j=>decide (src=L.getD j 0)) L.length=decide (src∈L):=by
 by_cases h:src∈L
 ·rw [decide_eq_true h,qW]
  obtain ⟨j,hj,e⟩:=List.getElem_of_mem h
  exact ⟨j,hj,decide_eq_true (by rw [gdqA,qR hj];exact e.symm)⟩
 ·rw [decide_eq_false h,qD]
  intro j hj
  refine decide_eq_false fun e=>h ?_
  rw [e,gdqA,qR hj]
  exact List.getElem_mem hj
theorem qui (L:List Int) (x:Int) (h:List AObj) (hn:L.length≤1000000000):qm Tryz.prog 27 [ql L,.int .i64 x] h (.bool (decide (x∈L))) h:=by
 have:=qvP qye L.length (fun j=> .i (L.getD j 0)) (.i x) h (fun _ _=>rfl) (by omega)
 simp only [At.v,At.i.injEq]at this
 have c:=qqR qx5 ⟨rfl,rfl⟩ ⟨rfl,rfl⟩ this
 rw [←qqt]
 exact c
theorem qAO (L:List Int) (x:Int) (h:List AObj) (hn:L.length≤1000000000):qm Tryz.prog 115 [ql L,.ip [.int .i64 x]] h (.bool (decide (x∈L))) h:=by
 have c27:=fun h=>qui L x h hn
 refine acO quK ?_
 simp (disch:=omega) only [qtG,List.replicate,go_sem]
 repeat' first
  |((first|refine cA (c27 _) ?_ ?_|refine cG (fun e=>c27 _) ?_ ?_|refine cU (fun _=>c27 _) ?_ ?_);(next=>exact flk);simp (disch:=omega) only [go_sem])
  |((first|apply qc|apply qb);exact rvk;simp only [go_sem];first|exact VLe.refl _|apply qd|apply qa|apply qe|skip)
  |with_reducible first|refine And.intro ?_ ?_|intro _
 all_goals try exact clz
def stV (names:List Str) (gs:List Gr) (e:En):AV:= .sl e.vars.length fun j=> [ql (zg names gs (e.vars.getD j default).sigla)]
def msV (names:List Str) (gs:List Gr) (L:List En):AV:= .sl L.length fun i=> [stV names gs (L.getD i default)]
def edL (names:List Str) (gs:List Gr) (t:List Str) (L:List En):List AV:= [strs names,qu gs,strs t,qy L,msV names gs L]
theorem qnC (names:List Str) (gs:List Gr) (e:En):(stV names gs e).flag=true:=rfl
theorem ql5 (names:List Str) (gs:List Gr) (e:En):(stV names gs e).strip=stV names gs e:=rfl
theorem qnA (names:List Str) (gs:List Gr) (L:List En):(msV names gs L).flag=true:=rfl
theorem ql3 (names:List Str) (gs:List Gr) (L:List En):(msV names gs L).strip=msV names gs L:=rfl
theorem qrv {fz:Nat→Bool} {h:List AObj} {n:Nat} (names:List Str) (gs:List Gr) (e:En):frz fz h (n+1) (stV names gs e)=stV names gs e:=rfl
theorem qsp {fz:Nat→Bool} {h:List AObj} {n:Nat} (names:List Str) (gs:List Gr) (e:En):rei fz h (n+1) (stV names gs e)=stV names gs e:=rfl
theorem qru {fz:Nat→Bool} {h:List AObj} {n:Nat} (names:List Str) (gs:List Gr) (L:List En):frz fz h (n+1) (msV names gs L)=msV names gs L:=rfl
theorem qso {fz:Nat→Bool} {h:List AObj} {n:Nat} (names:List Str) (gs:List Gr) (L:List En):rei fz h (n+1) (msV names gs L)=msV names gs L:=rfl
attribute [go_sem] qnC ql5 qnA ql3 qrv qsp qru qso
theorem qyG (names:List Str) (gs:List Gr) (e:En) (src:Int) (h:List AObj) (hl:e.vars.length≤1000000000):
  qm Tryz.prog 114 [stV names gs e,.fn (.func 115) [] [.ip [.int .i64 src]]] h (.int .i64 (vIx names gs e src)) h:=by
 unfold stV vIx
 refine qe9 quJ e.vars.length (fun j=> [ql (zg names gs (e.vars.getD j default).sigla)]) (fun j=>ql (zg names gs (e.vars.getD j default).sigla)) _ [] [.ip [.int .i64 src]] (inV names gs e src) h (fun i _=>⟨rfl,by simp [jv],rfl,rfl,rfl⟩) (fun i _=> ?_) (by omega)
 exact qAO _ src h (by have:=(kO names gs (e.vars.getD i default).sigla).2;omega)
def xsE (names:List Str) (gs:List Gr) (L:List En) (src:Int):List (List AV):=(L.filter (qar names gs src)).map fun e=> [.agg (enC e),strs (qij names gs e src)]
theorem qrj {L:List En} {p:En→Bool} {i:Nat} (hi:i<L.length) (hp:p (L.getD i default)=true): ∃h:((L.take i).filter p).length<(L.filter p).length,(L.filter p)[((L.take i).filter p).length]=L.getD i default:=by
 have e1:L.getD i default=L[i]:=by rw [gdqA,qR hi];rfl
 have e:L.filter p=(L.take i).filter p++L[i]::(L.drop (i+1)).filter p:=by
  conv=>lhs;rw [←List.take_append_drop i L,List.filter_append,List.drop_eq_getElem_cons hi,List.filter_cons,if_pos (by rw [←e1];exact hp)]
 refine ⟨by rw [e];simp,?_⟩
 simp only [e]
 rw [List.getElem_append_right (Nat.le_refl _)]
 simp only [Nat.sub_self,List.getElem_cons_zero]
 exact e1.symm
theorem qj0 {L:List En} {p:En→Bool} {i:Nat} (hi:i<L.length):((L.take (i+1)).filter p).length=((L.take i).filter p).length+if p (L.getD i default)=true then 1 else 0:=by
 have e1:L.getD i default=L[i]:=by rw [gdqA,qR hi];rfl
 rw [List.take_succ_eq_append_getElem hi,List.filter_append,List.length_append,List.filter_cons,e1]
 split<;>rfl
theorem qwB (names:List Str) (gs:List Gr) (e:En) (src:Int):vIx names gs e src<e.vars.length:=by
 unfold vIx
 rcases jU (inV names gs e src) e.vars.length with ⟨i,h1,_,_,h4⟩|⟨_,h2⟩
 ·rw [h4];omega
 ·rw [h2];omega
set_option maxHeartbeats 8000000 in
theorem itO (names:List Str) (gs:List Gr) (t:List Str) (L:List En) (src:Int) (hl:L.length≤1000000) (hv: ∀i,(L.getD i default).vars.length≤1000000000):
  qts Tryz.prog 113 [.ip (edL names gs t L),.ip [.int .i64 src]] (xsE names gs L src):=by
 intro h ts LI S E hS hE body start hts
 refine acQ quI ?_
 simp (disch:=omega) only [qtF,List.replicate,edL,qy,go_sem]
 repeat' first
  |((first|apply qc|apply qb);exact rvk;simp only [go_sem];first|exact VLe.refl _|apply qd|apply qa|apply qe|skip)
  |with_reducible first|refine And.intro ?_ ?_|intro _
 all_goals try exact clz
 obtain ⟨p,hp⟩: ∃p,p=qar names gs src:=⟨_,rfl⟩
 have hxl:(xsE names gs L src).length=(L.filter p).length:=by rw [hp];simp [xsE]
 refine qn (T:=fun i:Nat×List AObj×AObj=>qI 37 [(0,.yld h.length),(1,.ip (edL names gs t L)),(2,.ip [.int .i64 src]),(8,qy L),(9,.int .i64 L.length),(10,.int .i64 i.1)])
  (H:=fun i=>i.2.1++ [.lp .ready ts LI]++ [i.2.2])
  (inv:=fun i=>i.1≤L.length∧S ((L.take i.1).filter p).length i.2.1∧qH [i.2.2] 0=true) (m:=fun i=>L.length-i.1) (0,h,.emp 0) ⟨Nat.zero_le _,start,rfl⟩ (Wk.temps ?_) ?_
 ·(simp only [edL,qy,List.replicate,go_sem,qj,qh,qg,qi];try (repeat' first|(with_reducible refine And.intro ?_ ?_)|(apply qd;omega)|(apply qa;rfl)|exact VLe.refl _))
 rintro ⟨i,hh,O⟩ ⟨i1,i2,i3⟩ K hK
 simp only at i1 i2 i3 hK
 obtain ⟨hlen,hlow⟩:=hS _ _ i2
 have hb:(h++ [AObj.lp LS.ready ts LI]).length=(hh++ [AObj.lp LS.ready ts LI]).length:=by simp [hlen]
 rw [hb]
 have i3': ∀m,qH (O::m) 0=true:=fun _=>i3
 by_cases hi:i<L.length
 ·have q0:((i:Int)<L.length)=True:=eq_true (by omega)
  have hst:=qj0 (p:=p) hi
  have hfx:=qrj (p:=p) hi
  have hvl:=hv i
  have c114:=fun h=>qyG names gs (L.getD i default) src h hvl
  have hlt:=qwB names gs (L.getD i default) src
  have hpe:p (L.getD i default)=decide (0≤vIx names gs (L.getD i default) src):=by rw [hp];rfl
  have hX: ∀(hd:((L.take i).filter p).length<(xsE names gs L src).length),p (L.getD i default)=true→(xsE names gs L src)[((L.take i).filter p).length]= [.agg (enC (L.getD i default)),strs (qij names gs (L.getD i default) src)]:=by
   intro hd hpp
   obtain ⟨h1,h2⟩:=hfx hpp
   unfold xsE
   simp only [List.getElem_map,←hp]
   rw [h2]
  have hW:qij names gs (L.getD i default) src=((L.getD i default).vars.getD (vIx names gs (L.getD i default) src).toNat default).words:=rfl
  obtain ⟨x,hx⟩: ∃x,x=L.getD i default:=⟨_,rfl⟩
  have ex:=hx.symm
  simp only [ex]at c114 hst hlt hpe hX hvl hW hfx
  obtain ⟨d,hd⟩: ∃d,d=((L.take i).filter p).length:=⟨_,rfl⟩
  rw [←hd]at i2 hst hfx
  simp only [←hd]at hX
  obtain ⟨k,hk⟩: ∃k,k=vIx names gs x src:=⟨_,rfl⟩
  rw [←hk]at c114 hlt hpe hW
  by_cases hk0:0≤k
  ·obtain ⟨u,rfl⟩: ∃u:Nat,k=(u:Int):=⟨k.toNat,by omega⟩
   rw [Int.toNat_natCast]at hW
   rw [decide_eq_true hk0]at hpe
   rw [hpe,if_pos rfl]at hst
   have q1:((0:Int)≤u)=True:=eq_true hk0
   have q2:((u:Int)<x.vars.length)=True:=eq_true hlt
   have hdl:d<(xsE names gs L src).length:=by rw [hxl];exact (hfx hpe).1
   have hxx:=hX hdl hpe
   obtain ⟨wd,hwd⟩: ∃wd,wd=x.vars.getD u default:=⟨_,rfl⟩
   have ewd:=hwd.symm
   rw [ewd]at hW
   rw [hW]at hxx
   have hb':=fun O'=>body d hh [O'] hdl i2
   rw [hxx]at hb'
   simp (disch:=omega) only [List.replicate,edL,qy,msV,enC,i3',q0,ex,go_sem]
   unfold stV at c114
   repeat' first
    |((first|refine cA (c114 _) ?_ ?_|refine cG (fun e=>c114 _) ?_ ?_|refine cU (fun _=>c114 _) ?_ ?_);(next=>exact flk);simp (disch:=omega) only [edL,qy,msV,stV,enC,qB,vaC,i3',q0,q1,q2,ex,ewd,go_sem])
    |((first|apply qc|apply qb);exact rvk;simp only [go_sem];first|exact VLe.refl _|apply qd|apply qa|apply qe|skip)
    |with_reducible first|refine And.intro ?_ ?_|intro _
   all_goals try exact clz
   ·exact ⟨.ready,ts,LI,by rw [List.append_assoc];exact kE hlen⟩
   ·rw [List.append_assoc]
    refine kx.mono ?_ (hb' _)
    rintro v h' ⟨hh',⟨rfl,hn,rfl⟩|⟨st,rfl,hs',rfl⟩⟩
    ·simp (disch:=omega) only [q1,go_sem]
     repeat' first
      |((first|apply qc|apply qb);exact rvk;simp only [go_sem];first|exact VLe.refl _|apply qd|apply qa|apply qe|skip)
      |with_reducible first|refine And.intro ?_ ?_|intro _
     all_goals try exact clz
     refine hK _ _ (i+1,hh',.mem (qv (some O)+1) 49 (enC x)) ⟨hi,by simp only;rw [hst];exact hn,rfl⟩ (by simp only;omega) ?_
     simp only [List.append_assoc]
     refine Wk.temps ?_
     (simp only [edL,qy,List.replicate,go_sem,qj,qh,qg,qi];try (repeat' first|(with_reducible refine And.intro ?_ ?_)|(apply qd;omega)|(apply qa;rfl)|exact VLe.refl _))
    ·simp (disch:=omega) only [q1,go_sem]
     obtain ⟨r1,r2⟩:=(hE _ _ hs').ret (L:=LI) st hts
     have eO: ∀O',hh'++AObj.lp st ts LI:: [O']=(hh'++ [AObj.lp st ts LI])++ [O']:=fun _=>by simp
     rw [eO]
     exact qkf trivial r1 r2 ⟨_,.inr ⟨st,hs',rfl⟩⟩ (VLe.refl _)
  ·have q1:(0≤k)=False:=eq_false hk0
   rw [decide_eq_false hk0]at hpe
   rw [hpe,if_neg (by simp),Nat.add_zero]at hst
   simp (disch:=omega) only [List.replicate,edL,qy,msV,enC,i3',q0,ex,go_sem]
   unfold stV at c114
   repeat' first
    |((first|refine cA (c114 _) ?_ ?_|refine cG (fun e=>c114 _) ?_ ?_|refine cU (fun _=>c114 _) ?_ ?_);(next=>exact flk);simp (disch:=omega) only [edL,qy,msV,stV,enC,qB,vaC,i3',q0,q1,ex,go_sem])
    |((first|apply qc|apply qb);exact rvk;simp only [go_sem];first|exact VLe.refl _|apply qd|apply qa|apply qe|skip)
    |with_reducible first|refine And.intro ?_ ?_|intro _
   all_goals try exact clz
   refine hK _ _ (i+1,hh,.mem (qv (some O)+1) 49 (enC x)) ⟨hi,by simp only;rw [hst];exact i2,rfl⟩ (by simp only;omega) ?_
   simp only
   refine Wk.temps ?_
   (simp only [edL,qy,List.replicate,go_sem,qj,qh,qg,qi];try (repeat' first|(with_reducible refine And.intro ?_ ?_)|(apply qd;omega)|(apply qa;rfl)|exact VLe.refl _))
 ·have e:i=L.length:=by omega
  subst e
  have q0:((L.length:Int)<L.length)=False:=eq_false (by omega)
  rw [List.take_length]at i2
  simp (disch:=omega) only [List.replicate,edL,qy,i3',q0,go_sem]
  repeat' first
   |((first|apply qc|apply qb);exact rvk;simp only [go_sem];first|exact VLe.refl _|apply qd|apply qa|apply qe|skip)
   |with_reducible first|refine And.intro ?_ ?_|intro _
  all_goals try exact clz
  obtain ⟨r1,r2⟩:=(hS _ _ i2).ret (L:=LI) .ready hts
  exact qnN trivial r1 r2 ⟨hh,.inl ⟨by rw [hxl];exact i2,rfl⟩⟩ (VLe.refl _)
end RC
end
section
open Go Go.Proofs AF HY LN
namespace AF
theorem kj {P:Program} {f:FuncId} {cap:List AV} {xs:List (List AV)} (hf:qts P f cap xs) {ps:List Nat} {b:Nat} {x y:C} {Q:Ex→Nx} {ts:List AV} {h:List AObj} (hps: ∀a∈xs,a.length=ps.length)
  (S:Nat→List AObj→Prop) (E:Ex→List AObj→Prop) (hS: ∀i hh,S i hh→LowI h hh) (hE: ∀s hh,E s hh→LowI h hh)
  (start:S 0 h) (hts: ∀c∈ts,zE (h.length+1) c=true)
  (body: ∀i hh tl L TS,(hi:i<xs.length)→S i hh→hh.length=h.length→ ∀(K:Nx) (K2:Ex→Nx),
   (∀t2 X hm,X=hm++ .lp .ready TS L::tl→hm.length=h.length→qO P b y K2 t2 (hm++ .lp .busy TS L::tl)→K t2 X)→
   (∀t3 X hh',X=hh'++ .lp .busy TS L::tl→hh'.length=h.length→S (i+1) hh'→K2 .normal t3 X)→
   (∀t3 X hh',X=hh'++ .lp .busy TS L::tl→hh'.length=h.length→E .ret hh'→K2 .ret t3 X)→
   (∀id t3 X hh',X=hh'++ .lp .busy TS L::tl→hh'.length=h.length→E (.exit id) hh'→K2 (.exit id) t3 X)→
   qO P b x (Ex.andThen K (fun _ _ _=>False)) (qba ts ps (xs[i])) (hh++ .lp .ready TS L::tl))
  (done: ∀hh,S xs.length hh→Q .normal ts hh) (doneE: ∀e hh,E e hh→match e with
   | .normal=>False
   |e=>Q e ts hh):
  qek P (.fn (.func f) [] cap) ps (qO P b x) (qO P b y) Q ts h:=by
 intro L hy
 show jg _ _ _ _ _
 have key:=hf h ts L S (fun s hh=>match s with
  | .ret=>E .ret hh
  | .exit id=>E (.exit id) hh
  |_=>False) hS
  (by
   intro s hh hs
   cases s with
   |ret=>exact hE _ _ hs
   |exit id=>exact hE _ _ hs
   |ready=>exact hs.elim
   |busy=>exact hs.elim)
  (by
   intro i hh tl hi i4
   have hlen:=(hS _ _ i4).1
   refine hy h.length ts _ _ _ (kE hlen) (hps _ (List.getElem_mem hi)) ?_
   refine jS (Q:=Ex.andThen (fun t2 h2=> ∃hm,hm.length=h.length∧h2=hm++ .lp .ready ts L::tl∧
    qO P b y (fun e t3 h3=> ∃hh',h3=hh'++ .lp .busy ts L::tl∧hh'.length=h.length∧match e with
     | .normal=>S (i+1) hh'
     | .ret=>E .ret hh'
     | .exit id=>E (.exit id) hh') t2 (hm++ .lp .busy ts L::tl)) (fun _ _ _=>False)) ?_
    (body i hh tl L ts hi i4 hlen _ _ (fun t2 X hm e1 e2 e3=>⟨hm,e2,e1,e3⟩) (fun t3 X hh' e1 e2 e3=>⟨hh',e1,e2,e3⟩) (fun t3 X hh' e1 e2 e3=>⟨hh',e1,e2,e3⟩) (fun id t3 X hh' e1 e2 e3=>⟨hh',e1,e2,e3⟩))
   intro e t2 h2 hq
   cases e with
   |ret=>exact hq.elim
   |exit id=>exact hq.elim
   |normal=>
    obtain ⟨hm,hml,rfl,h3⟩:=hq
    refine ⟨rfl,⟨ts,kE hml⟩,fun ts' hts'=> ?_⟩
    rw [kE hml]at hts'
    cases hts'
    rw [qbv hml]
    refine jS ?_ h3
    rintro e t3 h3' ⟨hh',rfl,g1,g2⟩
    refine ⟨ts,kE g1,?_⟩
    cases e with
    |normal=>exact ⟨hh',.inl ⟨rfl,g2,qbv g1⟩⟩
    |ret=>exact ⟨hh',.inr ⟨.ret,rfl,g2,qbv g1⟩⟩
    |exit id=>exact ⟨hh',.inr ⟨.exit id,rfl,g2,qbv g1⟩⟩)
  start hts
 refine key.le (kw.refl _) ?_
 rintro v h' ⟨hh,⟨g1,rfl⟩|⟨s,g1,rfl⟩⟩
 ·have hl:=hS _ _ g1
  exact ⟨v,VLe.refl _,hh,.ready,ts,L,rfl,hl.1,fun o ho=>(hl.2 o ho).imp (fun h=>h) And.left,done hh g1⟩
 ·cases s with
  |ready=>exact g1.elim
  |busy=>exact g1.elim
  |ret=>
   have hl:=hE _ _ g1
   exact ⟨v,VLe.refl _,hh,.ret,ts,L,rfl,hl.1,fun o ho=>(hl.2 o ho).imp (fun h=>h) And.left,doneE _ _ g1⟩
  |exit id=>
   have hl:=hE _ _ g1
   exact ⟨v,VLe.refl _,hh,.exit id,ts,L,rfl,hl.1,fun o ho=>(hl.2 o ho).imp (fun h=>h) And.left,doneE _ _ g1⟩
end AF
namespace RC
set_option maxHeartbeats 4000000
theorem ofP (names:List Str) (gs:List Gr) (t:List Str) (L:List En) (src:Int) (h:List AObj):
  qm Tryz.prog 75 [.agg (edL names gs t L),.int .i64 src] h (.fn (.func 113) [] [.ip (edL names gs t L),.ip [.int .i64 src]]) h:=by
 unfold edL
 refine acO qyn ?_
 simp (disch:=omega) only [qzC,List.replicate,go_sem]
 repeat' first
  |((first|apply qc|apply qb);exact rvk;simp only [go_sem];first|exact VLe.refl _|apply qd|apply qa|apply qe|skip)
  |with_reducible first|refine And.intro ?_ ?_|intro _
 all_goals try exact clz
theorem qbP (n:Nat) (L:List Str):zE n (strs L)=true:=rfl
theorem qdh (n:Nat) (L:List Gr):zE n (qu L)=true:=rfl
theorem qdg (n:Nat) (L:List En):zE n (qy L)=true:=rfl
theorem qfc (n:Nat) (names:List Str) (gs:List Gr) (L:List En):zE n (msV names gs L)=true:=rfl
theorem qbg (names:List Str) (gs:List Gr) (L:List En) (src:Int):(xsE names gs L src).length=(L.filter (qar names gs src)).length:=by simp [xsE]
theorem qfR (names:List Str) (gs:List Gr) (L:List En) (src:Int) {i:Nat} (hi:i<(xsE names gs L src).length):
  (xsE names gs L src)[i]= [.agg (enC ((L.filter (qar names gs src)).getD i default)),strs (qij names gs ((L.filter (qar names gs src)).getD i default) src)]:=by
 have hi':i<(L.filter (qar names gs src)).length:=by rw [qbg]at hi;exact hi
 simp only [xsE,List.getElem_map]
 rw [gdqA,qR hi']
 rfl
theorem qfS (names:List Str) (gs:List Gr) (L:List En) (src:Int): ∀a∈xsE names gs L src,a.length=2:=by
 intro a ha
 unfold xsE at ha
 obtain ⟨_,_,rfl⟩:=List.mem_map.1 ha
 rfl
theorem qzQ (names:List Str) (gs:List Gr) (t:List Str) (L:List En) (src:Int) (h:List AObj) (hl:L.length≤1000000) (hv: ∀i,(L.getD i default).vars.length≤1000000000):
  qm Tryz.prog 46 [.agg (edL names gs t L),.int .i64 src] h (.int .i64 (L.filter (qar names gs src)).length) h:=by
 have c75:=fun h=>ofP names gs t L src h
 have hle:=List.length_filter_le (qar names gs src) L
 unfold edL at c75
 refine acO qyb ?_
 simp (disch:=omega) only [qzr,List.replicate,edL,go_sem]
 repeat' first
  |((first|refine cA (c75 _) ?_ ?_|refine cG (fun e=>c75 _) ?_ ?_|refine cU (fun _=>c75 _) ?_ ?_);(next=>exact flk);simp (disch:=omega) only [go_sem])
  |((first|apply qc|apply qb);exact rvk;simp only [go_sem];first|exact VLe.refl _|apply qd|apply qa|apply qe|skip)
  |with_reducible first|refine And.intro ?_ ?_|intro _
 all_goals try exact clz
 refine kj (xs:=xsE names gs L src) (itO names gs t L src hl hv) (qfS names gs L src)
  (S:=fun i hh=>hh=h++ [.mem 1 71 (edL names gs t L),.mem 1 3 [.int .i64 i]]) (E:=fun _ _=>False) ?_ (fun _ _ h=>h.elim) ?_ ?_ ?_ ?_ (fun _ _ h=>h.elim)
 ·rintro i hh rfl
  refine LowI.app rfl (fun o ho=> ?_)
  simp only [List.mem_cons,List.not_mem_nil,or_false]at ho
  rcases ho with rfl|rfl
  ·left;simp [edL]
  ·right;constructor<;>(intro c hc;simp at hc;subst hc;rfl)
 ·rfl
 ·simp [zE,zE.lowVs,edL,qbP,qdh,qdg,qfc]
  try omega
 ·rintro i hh tl LI TS hi rfl hlen K K2 hK hN hR hX
  rw [qfR names gs L src hi]
  rw [qbg]at hi
  simp only [qba]
  simp (disch:=omega) only [List.append_assoc,go_sem]
  refine hK _ _ (h++ [.mem 1 71 (edL names gs t L),.mem 1 3 [.int .i64 i]]) (by simp) (by simp) ?_
  simp (disch:=omega) only [List.append_assoc,go_sem]
  repeat' first
   |((first|apply qc|apply qb);exact rvk;simp only [go_sem];first|exact VLe.refl _|apply qd|apply qa|apply qe|skip)
   |with_reducible first|refine And.intro ?_ ?_|intro _
  all_goals try exact clz
  refine hN _ _ (h++ [.mem 1 71 (edL names gs t L),.mem 1 3 [.int .i64 ((i+1:Nat):Int)]]) (by simp) (by simp) rfl
 ·rintro hh rfl
  rw [qbg]
  simp (disch:=omega) only [go_sem]
  repeat' first
   |((first|apply qc|apply qb);exact rvk;simp only [go_sem];first|exact VLe.refl _|apply qd|apply qa|apply qe|skip)
   |with_reducible first|refine And.intro ?_ ?_|intro _
  all_goals try exact clz
end RC
end
section
open Go Go.Proofs AF HY LN
namespace AF
theorem Wk.ownNil {t:List AV} {h:List AObj} {j v i k ve sz:Nat} {ty:TypeId} {cs:List AV} (hj:qA j h=some (.mem v ty cs)) (hi:cs[i]? =some .nl) (hk:qA k h=some (.emp ve)):
  Wk t h t (qE j h (.mem v ty (cs.set i (.osl k ve sz 0 0)))):=by
 intro N w σ a H
 have hjl:j<σ.length:=by rw [H.hr.len];exact zN hj
 have hkl:k<σ.length:=by rw [H.hr.len];exact zN hk
 have ho:=qR hjl
 have hok:=qR hkl
 obtain ⟨e1,e2⟩:=H.hr.obj k _ _ hk hok
 obtain ⟨m1,m2,b,arr,m3,m4,m5,m6,m7,m8⟩:=H.hr.obj j _ _ hj ho
 have q:=H.hr.recell (cs':=cs.set i (.osl k ve sz 0 0)) hj ho m3 m4 m5 (by simpa using m6) (fun n x hn hx=>m7 n x (by simpa using hn) hx) (fun n c x hn hx=>by
  rw [List.getElem?_set]at hn
  split at hn
  ·rename_i e
   subst e
   split at hn
   ·cases hn
    have hv:=m8 i _ x hi hx
    cases hv with
    |imm hv=>
     cases hv
     exact .osl _ hok ⟨none,0,0,rfl⟩ (Nat.le_of_eq e1.symm) (fun _=> .inl ⟨e2,rfl,rfl,rfl⟩)
   ·cases hn
  ·exact m8 n c x hn hx)
 exact ⟨σ,⟨q,H.sz,H.tm,H.df⟩,Ext.refl _ _⟩
end AF
namespace RC
set_option maxHeartbeats 4000000
def qcr (names:List Str) (gs:List Gr) (t:List Str) (src:Int) (L:List En):List Str×Nat:=
 L.foldl (fun o e=>(o.1++(j8 t o.2 e.frm.toNat++qij names gs e src),e.to.toNat)) ([],0)
theorem qmb (names:List Str) (gs:List Gr) (t:List Str) (src:Int) (L:List En) (e:En):
  qcr names gs t src (L++ [e])=((qcr names gs t src L).1++(j8 t (qcr names gs t src L).2 e.frm.toNat++qij names gs e src),e.to.toNat):=by
 unfold qcr
 rw [List.foldl_append]
 rfl
theorem qsM (names:List Str) (gs:List Gr) (t:List Str) (src:Int) (L:List En): ∀(o:List Str) (k:Nat),
  (L.foldl (fun o e=>(o.1++(j8 t o.2 e.frm.toNat++qij names gs e src),e.to.toNat)) (o,k)).1++j8 t (L.foldl (fun o e=>(o.1++(j8 t o.2 e.frm.toNat++qij names gs e src),e.to.toNat)) (o,k)).2 t.length=o++qpi names gs t src L k:=by
 induction L with
 |nil=>
  intro o k
  simp only [List.foldl_nil,qpi,j8]
  rw [List.take_of_length_le (by simp)]
 |cons e r ih=>
  intro o k
  rw [List.foldl_cons,ih]
  simp [qpi]
theorem qpj (names:List Str) (gs:List Gr) (t:List Str) (src:Int) (L:List En):
  (qcr names gs t src L).1++j8 t (qcr names gs t src L).2 t.length=qpi names gs t src L 0:=by
 have:=qsM names gs t src L [] 0
 rw [List.nil_append]at this
 exact this
structure qw8 (t:List Str) (L:List En):Prop where
 rg: ∀i,i<L.length→0≤(L.getD i default).frm∧(L.getD i default).frm≤(L.getD i default).to∧(L.getD i default).to≤t.length
 nx: ∀i,i+1<L.length→(L.getD i default).to≤(L.getD (i+1) default).frm
theorem qma {L:List En} {i:Nat} (hi:i<L.length):L.take (i+1)=L.take i++ [L.getD i default]:=by
 rw [List.take_succ_eq_append_getElem hi,gdqA,qR hi]
 rfl
theorem qaP {names:List Str} {gs:List Gr} {t:List Str} {src:Int} {L:List En} {i:Nat} (hi:i<L.length):
  qcr names gs t src (L.take (i+1))=((qcr names gs t src (L.take i)).1++(j8 t (qcr names gs t src (L.take i)).2 (L.getD i default).frm.toNat++qij names gs (L.getD i default) src),(L.getD i default).to.toNat):=by
 rw [qma hi,qmb]
theorem qsL {names:List Str} {gs:List Gr} {t:List Str} {src:Int} {L:List En} (ok:qw8 t L): ∀i,i<L.length→((qcr names gs t src (L.take i)).2:Int)≤(L.getD i default).frm:=by
 intro i hi
 cases i with
 |zero=>exact (ok.rg 0 hi).1
 |succ i=>
  rw [qaP (by omega)]
  have:=ok.nx i hi
  have h2:=ok.rg i (by omega)
  show (((L.getD i default).to.toNat:Nat):Int)≤_
  omega
theorem qsN {names:List Str} {gs:List Gr} {t:List Str} {src:Int} {L:List En} (ok:qw8 t L): ∀i,i≤L.length→(qcr names gs t src (L.take i)).2≤t.length:=by
 intro i hi
 cases i with
 |zero=>exact Nat.zero_le _
 |succ i=>
  rw [qaP (by omega)]
  have h2:=ok.rg i (by omega)
  show ((L.getD i default).to.toNat:Nat)≤_
  omega
theorem qmA {names:List Str} {gs:List Gr} {e:En} {src:Int} {W:Nat} (h: ∀i,(e.vars.getD i default).words.length≤W):(qij names gs e src).length≤W:=h _
theorem qpk {names:List Str} {gs:List Gr} {t:List Str} {src:Int} {W:Nat} {L:List En} (h: ∀i,i<L.length→ ∀k,((L.getD i default).vars.getD k default).words.length≤W):
  ∀i,i≤L.length→(qcr names gs t src (L.take i)).1.length≤i*(t.length+W):=by
 intro i
 induction i with
 |zero=>intro _;exact Nat.zero_le _
 |succ i ih=>
  intro hi
  rw [qaP (by omega)]
  have h1:=ih (by omega)
  have h2:=qmA (names:=names) (gs:=gs) (src:=src) (h i (by omega))
  have h3:(j8 t (qcr names gs t src (L.take i)).2 (L.getD i default).frm.toNat).length≤t.length:=by unfold j8;simp;omega
  simp only [List.length_append,Nat.add_mul,Nat.one_mul]
  omega
theorem qkN {names:List Str} {gs:List Gr} {l:List En} {src:Int} {e:En} (h:e∈ofE names gs l src):e∈l:=(zO l).subset (List.mem_filter.1 h).1
theorem jw {L:List En} {i:Nat} (hi:i<L.length):L.getD i default∈L:=by
 rw [gdqA,qR hi]
 exact List.getElem_mem hi
theorem qeJ.tx {names:List Str} {gs:List Gr} {t:List Str} {l:List En} (h:qeJ names gs t l) {s:Nat} (hs:s<names.length):qw8 t (ofE names gs l (s:Int)):=
 ⟨fun i hi=>(jh.1 (h.ck _ (qkN (jw hi)))).rng,fun i hi=>qnc (kZ h.cl hs) hi⟩
end RC
end
