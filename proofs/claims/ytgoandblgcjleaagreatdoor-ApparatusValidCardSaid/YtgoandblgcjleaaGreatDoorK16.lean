import Derived.Test.YtgoandblgcjleaaGreatDoorK15
import Derived.Test.YtgoandblgcjleaaGreatDoorK10
import Derived.Test.YtgoandblgcjleaaGreatDoorK12
import Derived.Test.YtgoandblgcjleaaGreatDoorK9
import Derived.Test.YtgoandblgcjleaaGreatDoorK8
import Derived.Test.YtgoandblgcjleaaGreatDoorK3
import Derived.Test.YtgoandblgcjleaaGreatDoorK5
import Derived.Test.YtgoandblgcjleaaGreatDoorProg
import Derived.Test.YtgoandblgcjleaaGreatDoorK11
import Derived.Test.YtgoandblgcjleaaGreatDoorRows
import Derived.LaidLaws
set_option linter.all false
set_option linter.unusedSimpArgs false
set_option linter.unusedVariables false
set_option linter.unusedSectionVars false
set_option maxHeartbeats 128000000
set_option maxRecDepth 100000
section
open Go Go.Proofs AF HY LN
namespace RC
structure ES where
 i:Nat
 v:Nat
 O6:AObj
 O7:AObj
 O8:AObj
 O9:AObj
 e10:Nat
 O11:AObj
 O12:AObj
 O13:AObj
 e14:Nat
 O15:AObj
theorem qhm (L:List Va) (n:Nat): ∀c∈qdw L,jd n c=true:=by
 intro c hc
 unfold qdw at hc
 obtain ⟨x,_,hx⟩:=List.mem_flatMap.1 hc
 simp only [vaC,List.mem_cons,List.not_mem_nil,or_false]at hx
 rcases hx with rfl|rfl<;>rfl
theorem qkR (a:Ap) (k y:Nat):(enU a k++enY a k y).length≤k*a.lay.length+y:=by
 have h1: ∀k n,(enY a k n).length≤n:=by
  intro k n
  induction n with
  |zero=>exact Nat.le_refl _
  |succ n ih=>
   show (enY a k n++if vrK a k n= [] then [] else [enK a k n]).length≤_
   rw [List.length_append]
   split
   ·simp only [List.length_nil];omega
   ·simp only [List.length_cons,List.length_nil];omega
 have h2: ∀n,(enU a n).length≤n*a.lay.length:=by
  intro n
  induction n with
  |zero=>exact Nat.zero_le _
  |succ n ih=>
   show (enU a n++enY a n a.lay.length).length≤_
   rw [List.length_append,Nat.add_mul,Nat.one_mul]
   have:=h1 n a.lay.length
   omega
 rw [List.length_append]
 have:=h1 k y
 have:=h2 k
 omega
structure EY where
 y:Nat
 v:Nat
 O11:AObj
 O12:AObj
 O13:AObj
 e14:Nat
 O15:AObj
theorem qB7 (a:Ap) (h:List AObj) (hz:qrC a) (hp:kY SG h):
  ACalls Tryz.prog 96 [.agg (coC a.x),qE a.l,zj a.cls,qM a.b,qF a.gs,strs a.lay,zk a.pos] h (.tup [qaC (enR a),.int .i64 (enE a)]) h:=by
 have hsz:=qrd hz.g42
 have z1:=hz.l12
 have z2:=hz.b14
 have z3:=hz.y18
 have z4:=hz.p20
 have z5:=hz.c12
 have c38:=fun l'=>pvP a.x a.l a.b (h++l') hz.co hz.un (by omega) (fun i=>by have:=hz.bt i;omega) (hp.app l')
 have c122:=fun h=>sgP a.x.sig a.gs h hsz
 have c27:=fun h=>lyP a.lay [] h (by omega) (fun i=>by have:=hz.yl i;omega)
 have nl0:VLe AV.nl (qaC []):=kZ
 obtain ⟨R,hR⟩: ∃R,R=enR a:=⟨_,rfl⟩
 obtain ⟨E,hE⟩: ∃E,E=enE a:=⟨_,rfl⟩
 rw [←hR,←hE]
 unfold enR at hR
 rw [←hE]at hR
 unfold enE at hE
 unfold coC qE qM strs at c38
 unfold strs at c122 c27
 by_cases g1:pvE a.x a.l a.b=0
 case neg=>
  have k1:(pvE a.x a.l a.b=0)=False:=eq_false g1
  rw [if_pos g1]at hE
  rw [hE,if_neg g1]at hR
  rw [hR,hE]
  refine acO qh1 ?_
  simp (disch:=omega) only [qsh,coC,qE,zj,strs,zk,qM,k1,go_sem]
  repeat' first
   |((first|refine cA (c38 _) ?_ ?_|refine cG (fun e=>c38 _) ?_ ?_|refine cU (fun _=>c38 _) ?_ ?_);exact flk;simp (disch:=omega) only [coC,qE,zj,strs,zk,qM,k1,go_sem])
   |((first|apply qd|apply qb);exact rvk;simp only [go_sem];first|exact ql|apply qe|apply qa|apply qf|skip)
   |with_reducible first|intro _|apply aiA
  all_goals try exact clz
  exact kj ⟨nl0,ql,trivial⟩
 rw [if_neg (fun hc=>hc g1)]at hE
 rw [g1]at c38
 by_cases g2:sgE a.x.sig a.gs=0
 case neg=>
  have k2:(sgE a.x.sig a.gs=0)=False:=eq_false g2
  rw [if_pos g2]at hE
  rw [hE,if_neg (by decide)]at hR
  rw [hR,hE]
  refine acO qh1 ?_
  simp (disch:=omega) only [qsh,coC,qE,zj,strs,zk,qM,k2,go_sem]
  repeat' first
   |((first|refine cA (c38 _) ?_ ?_|refine cG (fun e=>c38 _) ?_ ?_|refine cA (c122 _) ?_ ?_|refine cG (fun e=>c122 _) ?_ ?_|refine cU (fun _=>c38 _) ?_ ?_|refine cU (fun _=>c122 _) ?_ ?_);exact flk;simp (disch:=omega) only [coC,qE,zj,strs,zk,qM,k2,go_sem])
   |((first|apply qd|apply qb);exact rvk;simp only [go_sem];first|exact ql|apply qe|apply qa|apply qf|skip)
   |with_reducible first|intro _|apply aiA
  all_goals try exact clz
  exact kj ⟨nl0,ql,trivial⟩
 rw [if_neg (fun hc=>hc g2)]at hE
 rw [g2]at c122
 by_cases g3:lyE a.lay=0
 case neg=>
  have k3:(lyE a.lay=0)=False:=eq_false g3
  rw [if_pos g3]at hE
  rw [hE,if_neg g3]at hR
  rw [hR,hE]
  refine acO qh1 ?_
  simp (disch:=omega) only [qsh,coC,qE,zj,strs,zk,qM,k3,go_sem]
  repeat' first
   |((first|refine cA (c38 _) ?_ ?_|refine cG (fun e=>c38 _) ?_ ?_|refine cA (c122 _) ?_ ?_|refine cG (fun e=>c122 _) ?_ ?_|refine cA (c27 _) ?_ ?_|refine cG (fun e=>c27 _) ?_ ?_|refine cU (fun _=>c38 _) ?_ ?_|refine cU (fun _=>c122 _) ?_ ?_|refine cU (fun _=>c27 _) ?_ ?_);exact flk;simp (disch:=omega) only [coC,qE,zj,strs,zk,qM,k3,go_sem])
   |((first|apply qd|apply qb);exact rvk;simp only [go_sem];first|exact ql|apply qe|apply qa|apply qf|skip)
   |with_reducible first|intro _|apply aiA
  all_goals try exact clz
  exact kj ⟨nl0,ql,trivial⟩
 rw [if_neg (fun hc=>hc g3)]at hE
 rw [g3]at c27
 by_cases g4:a.pos.length=a.lay.length
 case neg=>
  have k4:((a.pos.length:Int)=a.lay.length)=False:=eq_false (by omega)
  rw [if_pos (.inl g4)]at hE
  rw [hE,if_neg (by decide)]at hR
  rw [hR,hE]
  refine acO qh1 ?_
  simp (disch:=omega) only [qsh,coC,qE,zj,strs,zk,qM,k4,go_sem]
  repeat' first
   |((first|refine cA (c38 _) ?_ ?_|refine cG (fun e=>c38 _) ?_ ?_|refine cA (c122 _) ?_ ?_|refine cG (fun e=>c122 _) ?_ ?_|refine cA (c27 _) ?_ ?_|refine cG (fun e=>c27 _) ?_ ?_|refine cU (fun _=>c38 _) ?_ ?_|refine cU (fun _=>c122 _) ?_ ?_|refine cU (fun _=>c27 _) ?_ ?_);exact flk;simp (disch:=omega) only [coC,qE,zj,strs,zk,qM,k4,go_sem])
   |((first|apply qd|apply qb);exact rvk;simp only [go_sem];first|exact ql|apply qe|apply qa|apply qf|skip)
   |with_reducible first|intro _|apply aiA
  all_goals try exact clz
  exact kj ⟨nl0,ql,trivial⟩
 have k4:((a.pos.length:Int)=a.lay.length)=True:=eq_true (by omega)
 by_cases g5:a.cls.length=a.l.length
 case neg=>
  have k5:((a.cls.length:Int)=a.l.length)=False:=eq_false (by omega)
  rw [if_pos (.inr g5)]at hE
  rw [hE,if_neg (by decide)]at hR
  rw [hR,hE]
  refine acO qh1 ?_
  simp (disch:=omega) only [qsh,coC,qE,zj,strs,zk,qM,k4,k5,go_sem]
  repeat' first
   |((first|refine cA (c38 _) ?_ ?_|refine cG (fun e=>c38 _) ?_ ?_|refine cA (c122 _) ?_ ?_|refine cG (fun e=>c122 _) ?_ ?_|refine cA (c27 _) ?_ ?_|refine cG (fun e=>c27 _) ?_ ?_|refine cU (fun _=>c38 _) ?_ ?_|refine cU (fun _=>c122 _) ?_ ?_|refine cU (fun _=>c27 _) ?_ ?_);exact flk;simp (disch:=omega) only [coC,qE,zj,strs,zk,qM,k4,k5,go_sem])
   |((first|apply qd|apply qb);exact rvk;simp only [go_sem];first|exact ql|apply qe|apply qa|apply qf|skip)
   |with_reducible first|intro _|apply aiA
  all_goals try exact clz
  exact kj ⟨nl0,ql,trivial⟩
 have k5:((a.cls.length:Int)=a.l.length)=True:=eq_true (by omega)
 rw [if_neg (by rintro (h|h)<;>contradiction)]at hE
 refine acO qh1 ?_
 simp (disch:=omega) only [qsh,coC,qE,zj,strs,zk,qM,k4,k5,go_sem]
 repeat' first
  |((first|refine cA (c38 _) ?_ ?_|refine cG (fun e=>c38 _) ?_ ?_|refine cA (c122 _) ?_ ?_|refine cG (fun e=>c122 _) ?_ ?_|refine cA (c27 _) ?_ ?_|refine cG (fun e=>c27 _) ?_ ?_|refine cU (fun _=>c38 _) ?_ ?_|refine cU (fun _=>c122 _) ?_ ?_|refine cU (fun _=>c27 _) ?_ ?_);exact flk;simp (disch:=omega) only [coC,qE,zj,strs,zk,qM,k4,k5,go_sem])
  |((first|apply qd|apply qb);exact rvk;simp only [go_sem];first|exact ql|apply qe|apply qa|apply qf|skip)
  |with_reducible first|intro _|apply aiA
 all_goals try exact clz
 have vv:(∀j,j<a.l.length→(a.cls.getD j []).length=(a.l.getD j default).rds.length)→E=0:=fun hx=>by
  rw [hE,qo.2 (fun j hj=>by rw [decide_eq_true (hx j hj)];rfl),if_neg (by simp)]
 refine qu (T:=fun i:Nat×AObj=>qT 200 [(1,qE a.l),(2,zj a.cls),(3,qM a.b),(5,strs a.lay),(6,zk a.pos),(7,.op h.length 1 0),(11,.op (h.length+1) 1 0),(14,.op (h.length+2) 1 0),(15,.op (h.length+3) 1 0),(69,qE a.l),(70,.int .i64 a.l.length),(71,.int .i64 i.1)])
  (H:=fun i=>h++ [.mem 1 26 (coC a.x),.mem 1 44 [qF a.gs],.mem 1 49 [.nl],.mem 1 35 [.int .i64 0],i.2,.emp 0,.emp 0,.emp 0,.emp 0,.emp 0,.emp 0,.emp 0,.emp 0,.emp 0,.emp 0,.emp 0,.emp 0])
  (inv:=fun i=>i.1≤a.l.length∧qP [i.2] 0=true∧ ∀j,j<i.1→(a.cls.getD j []).length=(a.l.getD j default).rds.length) (m:=fun i=>a.l.length-i.1) (0,.emp 0) ⟨Nat.zero_le _,rfl,fun j hj=>absurd hj (Nat.not_lt_zero j)⟩ (Wk.temps ?_) ?_
 ·(simp only [qE,zj,qM,strs,zk,go_sem,qk,qh,qg,qj];try (repeat' first|(with_reducible apply aiA)|(apply qe;omega)|(apply qa;rfl)|exact ql))
 rintro ⟨i,O4⟩ ⟨i1,i2,i3⟩ K hK
 simp only at i1 i2 i3 hK
 have i2': ∀m,qP (O4::m) 0=true:=fun _=>i2
 by_cases hi:i<a.l.length
 ·have k6:((i:Int)<a.l.length)=True:=eq_true (by omega)
  have k7:((i:Int)<a.cls.length)=True:=eq_true (by omega)
  have hbad: ¬(a.cls.getD i []).length=(a.l.getD i default).rds.length→E=9:=fun hx=>by
   rw [hE,qG.2 ⟨i,hi,by rw [decide_eq_false hx];rfl⟩,if_pos rfl]
  have hS:(a.cls.getD i []).length=(a.l.getD i default).rds.length→ ∀j,j<i+1→(a.cls.getD j []).length=(a.l.getD j default).rds.length:=fun hx j hj=>by
   by_cases e:j=i
   ·subst e;exact hx
   ·exact i3 j (by omega)
  obtain ⟨u,hu⟩: ∃u,u=a.l.getD i default:=⟨_,rfl⟩
  have eu:=hu.symm
  obtain ⟨c,hc⟩: ∃c,c=a.cls.getD i []:=⟨_,rfl⟩
  have ec:=hc.symm
  rw [eu,ec]at hbad hS
  by_cases g6:c.length=u.rds.length
  ·have k8:((c.length:Int)=u.rds.length)=True:=eq_true (by omega)
   simp (disch:=omega) only [qE,zj,strs,unC,zC,k6,k7,k8,eu,ec,i2',go_sem]
   repeat' first
    |((first|apply qd|apply qb);exact rvk;simp only [go_sem];first|exact ql|apply qe|apply qa|apply qf|skip)
    |with_reducible first|intro _|apply aiA
   all_goals try exact clz
   refine hK _ _ (i+1,.mem (qx (some O4)+1) 83 (unC u)) ⟨hi,rfl,hS g6⟩ (by simp only;omega) (Wk.temps ?_)
   (simp only [qE,zj,qM,strs,zk,go_sem,qk,qh,qg,qj];try (repeat' first|(with_reducible apply aiA)|(apply qe;omega)|(apply qa;rfl)|exact ql))
  ·have k8:((c.length:Int)=u.rds.length)=False:=eq_false (by omega)
   have hE9:=hbad g6
   rw [hE9,if_neg (by decide)]at hR
   rw [hR,hE9]
   simp (disch:=omega) only [qE,zj,strs,unC,zC,k6,k7,k8,eu,ec,i2',go_sem]
   repeat' first
    |((first|apply qd|apply qb);exact rvk;simp only [go_sem];first|exact ql|apply qe|apply qa|apply qf|skip)
    |with_reducible first|intro _|apply aiA
   all_goals try exact clz
   exact kj ⟨nl0,ql,trivial⟩
 have k6:((i:Int)<a.l.length)=False:=eq_false (by omega)
 have hE0:E=0:=vv fun j hj=>i3 j (by omega)
 have hcl: ∀j,j<a.l.length→(a.cls.getD j []).length=(a.l.getD j default).rds.length:=fun j hj=>i3 j (by omega)
 rw [hE0,if_pos rfl]at hR
 rw [hR,hE0]
 clear hK hE hE0 vv hR i3
 have hok:=qrv g1
 simp (disch:=omega) only [qE,k6,go_sem]
 repeat' first
  |((first|apply qd|apply qb);exact rvk;simp only [go_sem];first|exact ql|apply qe|apply qa|apply qf|skip)
  |with_reducible first|intro _|apply aiA
 all_goals try exact clz
 refine qu (T:=fun s:ES=>qT 200 [(2,zj a.cls),(3,qM a.b),(5,strs a.lay),(6,zk a.pos),(7,.op h.length 1 0),(11,.op (h.length+1) 1 0),(14,.op (h.length+2) 1 0),(15,.op (h.length+3) 1 0),(21,.osl (h.length+5) s.v 6 0 (enU a s.i).length),(86,qE a.l),(87,.int .i64 a.l.length),(88,.int .i64 s.i)])
  (H:=fun s=>h++ [.mem 1 26 (coC a.x),.mem 1 44 [qF a.gs],.mem 1 49 [.nl],.mem 1 35 [.int .i64 0],O4,zM s.v 58 (qbo (enU a s.i)),s.O6,s.O7,s.O8,s.O9,.emp s.e10,s.O11,s.O12,s.O13,.emp s.e14,s.O15,.emp 0])
  (inv:=fun s=>s.i≤a.l.length∧qP [s.O6] 0=true∧qP [s.O7] 0=true∧qP [s.O8] 0=true∧qP [s.O9] 0=true∧qP [s.O11] 0=true∧qP [s.O12] 0=true∧qP [s.O13] 0=true∧qP [s.O15] 0=true) (m:=fun s=>a.l.length-s.i) ⟨0,1,.emp 0,.emp 0,.emp 0,.emp 0,0,.emp 0,.emp 0,.emp 0,0,.emp 0⟩ ⟨Nat.zero_le _,rfl,rfl,rfl,rfl,rfl,rfl,rfl,rfl⟩ (Wk.temps ?_) ?_
 ·(simp only [qE,zj,qM,strs,zk,enU,List.length_nil,go_sem,qk,qh,qg,qj];try (repeat' first|(with_reducible apply aiA)|(apply qe;omega)|(apply qa;rfl)|exact ql))
 rintro ⟨k,v,O6,O7,O8,O9,e10,O11,O12,O13,e14,O15⟩ ⟨s1,p6,p7,p8,p9,p11,p12,p13,p15⟩ K hK
 simp only at s1 p6 p7 p8 p9 p11 p12 p13 p15 hK
 have p6': ∀m,qP (O6::m) 0=true:=fun _=>p6
 have p7': ∀m,qP (O7::m) 0=true:=fun _=>p7
 have p8': ∀m,qP (O8::m) 0=true:=fun _=>p8
 have p9': ∀m,qP (O9::m) 0=true:=fun _=>p9
 have p11': ∀m,qP (O11::m) 0=true:=fun _=>p11
 have p12': ∀m,qP (O12::m) 0=true:=fun _=>p12
 have p13': ∀m,qP (O13::m) 0=true:=fun _=>p13
 have p15': ∀m,qP (O15::m) 0=true:=fun _=>p15
 by_cases hk:k<a.l.length
 case neg=>
  have k7:((k:Int)<a.l.length)=False:=eq_false (by omega)
  obtain rfl:k=a.l.length:=by omega
  simp (disch:=omega) only [qE,k7,go_sem]
  repeat' first
   |((first|apply qd|apply qb);exact rvk;simp only [go_sem];first|exact ql|apply qe|apply qa|apply qf|skip)
   |with_reducible first|intro _|apply aiA
  all_goals try exact clz
  exact kj ⟨qmz rfl,ql,trivial⟩
 have k7:((k:Int)<a.l.length)=True:=eq_true (by omega)
 have k8:((k:Int)<a.cls.length)=True:=eq_true (by omega)
 have hcu:=hcl k hk
 obtain ⟨e1,e2⟩:=spK hok hk
 obtain ⟨f1,f2,_,_⟩:=qbu hok hk
 have hown:=qlV hok hk
 have c160:=fun h=>qBr a.b (k:Int) (a.l.getD k default) h (by omega)
 rw [e1,e2]at c160
 obtain ⟨u,hu⟩: ∃u,u=a.l.getD k default:=⟨_,rfl⟩
 have eu:=hu.symm
 obtain ⟨F,hF⟩: ∃F,F=frK a k:=⟨_,rfl⟩
 obtain ⟨G,hG⟩: ∃G,G=toK a k:=⟨_,rfl⟩
 rw [←hF,←hG]at hown f1
 rw [←hG]at f2
 simp only [←hF,←hG,eu]at c160
 unfold qM unC at c160
 have q1:((F:Int)≤G)=True:=eq_true (by omega)
 have q2:((G:Int)≤a.b.length)=True:=eq_true (by omega)
 have q3:(0≤(F:Int))=True:=eq_true (by omega)
 simp (disch:=omega) only [qE,qM,unC,wdC,k7,eu,q1,q2,q3,p6',p7',go_sem]
 repeat' first
  |((first|refine cA (c160 _) ?_ ?_|refine cG (fun e=>c160 _) ?_ ?_|refine cU (fun _=>c160 _) ?_ ?_);exact flk;simp (disch:=omega) only [qE,qM,unC,wdC,k7,eu,q1,q2,q3,p6',p7',Int.toNat_natCast,go_sem])
  |((first|apply qd|apply qb);exact rvk;simp only [go_sem];first|exact ql|apply qe|apply qa|apply qf|skip)
  |with_reducible first|intro _|apply aiA
 all_goals try exact clz
 obtain ⟨v6,hv6⟩: ∃v6,v6=qx (some O6)+1:=⟨_,rfl⟩
 obtain ⟨v7,hv7⟩: ∃v7,v7=qx (some O7)+1:=⟨_,rfl⟩
 simp only [←hv6,←hv7]
 have t0:qaW (jX a.b) F (F+0)= []:=by unfold qaW;simp
 have tl:(jX a.b).length=a.b.length:=by unfold jX;simp
 refine qu (T:=fun s:Nat×Nat×AObj×AObj=>qT 200 [(2,zj a.cls),(3,qM a.b),(5,strs a.lay),(6,zk a.pos),(7,.op h.length 1 0),(11,.op (h.length+1) 1 0),(14,.op (h.length+2) 1 0),(15,.op (h.length+3) 1 0),(22,.int .i64 (k:Int)),(23,.op (h.length+6) v6 0),(24,.int .i64 (F:Int)),(25,.int .i64 (G:Int)),(26,.op (h.length+7) v7 0),(86,qE a.l),(87,.int .i64 a.l.length),(88,.int .i64 (k:Int)),(21,.osl (h.length+5) v 6 0 (enU a k).length),(103,.sl (G-F) fun j=>wdC (a.b.getD (F+j) default)),(104,.int .i64 ((G-F:Nat):Int)),(105,.int .i64 s.1)])
  (H:=fun s=>h++ [.mem 1 26 (coC a.x),.mem 1 44 [qF a.gs],.mem 1 49 [.nl],.mem 1 35 [.int .i64 0],O4,zM v 58 (qbo (enU a k)),.mem v6 83 (unC u),.mem v7 22 [.osl (h.length+10) s.2.1 1 0 s.1],s.2.2.1,s.2.2.2,zM s.2.1 9 (jj (qaW (jX a.b) F (F+s.1))),O11,O12,O13,.emp e14,O15,.emp 0])
  (inv:=fun s=>s.1≤G-F∧qP [s.2.2.1] 0=true∧qP [s.2.2.2] 0=true) (m:=fun s=>G-F-s.1) (0,e10,O8,O9) ⟨Nat.zero_le _,p8,p9⟩
  (Wk.trans (Wk.ownNil (j:=h.length+7) (i:=0) (k:=h.length+10) (v:=v7) (ty:=22) (cs:= [.nl]) (ve:=e10) (sz:=1) ?c1 rfl ?c2) ?c3) ?c4
 case c1=>simp only [go_sem]
 case c2=>simp only [go_sem]
 case c3=>
  have eo:zM e10 9 (jj (qaW (jX a.b) F (F+0)))= .emp e10:=by rw [t0];rfl
  have eo2:zM e10 9 (jj (qaW (jX a.b) F F))= .emp e10:=eo
  simp only [go_sem,eo,eo2,List.set_cons_zero,unC]
  refine Wk.temps ?_
  (simp only [qE,zj,qM,wdC,strs,zk,unC,go_sem,qk,qh,qg,qj];try (repeat' first|(with_reducible apply aiA)|(apply qe;omega)|(apply qa;rfl)|exact ql))
 case c4=>
 rintro ⟨j,w,O8,O9⟩ ⟨j1,p8,p9⟩ K2 hK2
 simp only at j1 p8 p9 hK2
 have p8': ∀m,qP (O8::m) 0=true:=fun _=>p8
 have p9': ∀m,qP (O9::m) 0=true:=fun _=>p9
 have hsl:=qd6 (t:=jX a.b) (f:=F) (g:=F+j) (by omega) (by omega)
 by_cases hj:j<G-F
 ·have r1:((j:Int)<((G-F:Nat):Int))=True:=eq_true (by omega)
  have hsn:=qm3 (t:=jX a.b) (f:=F) (d:=j) (by omega)
  have htx:(jX a.b).getD (F+j) []=(a.b.getD (F+j) default).text:=by
   unfold jX
   rw [gdqA,List.getElem?_map,gdqA,zf (show F+j<a.b.length by omega)]
   rfl
  obtain ⟨wd,hwd⟩: ∃wd,wd=a.b.getD (F+j) default:=⟨_,rfl⟩
  have ewd:=hwd.symm
  rw [htx,ewd]at hsn
  obtain ⟨S,hS⟩: ∃S,S=qaW (jX a.b) F (F+j):=⟨_,rfl⟩
  have eS:=hS.symm
  rw [eS]at hsn hsl
  have hsl:S.length=j:=by omega
  have eC:=jL S
  have eTk:List.take j (jj S)=jj S:=List.take_of_length_le (by omega)
  rw [hsl]at eC
  simp (disch:=omega) only [wdC,r1,ewd,eS,p8',p9',eC,eTk,Nat.mul_one,go_sem]
  repeat' first
   |((first|apply qd|apply qb);exact rvk;simp only [go_sem];first|exact ql|apply qe|apply qa|apply qf|skip)
   |with_reducible first|intro _|apply aiA
  all_goals try exact clz
  have eA:jj S++ [AV.str wd.text]=jj (qaW (jX a.b) F (F+(j+1))):=by rw [hsn,qco];rfl
  try rw [eA]
  refine hK2 _ _ (j+1,w+1,.mem (qx (some O8)+1) 64 (wdC wd),.mem (qx (some O9)+1) 9 [.str wd.text]) ⟨hj,rfl,rfl⟩ (by simp only;omega) ?_
  simp only [wdC]
  refine Wk.temps ?_
  (simp only [qE,zj,qM,wdC,strs,zk,unC,go_sem,qk,qh,qg,qj];try (repeat' first|(with_reducible apply aiA)|(apply qe;omega)|(apply qa;rfl)|exact ql))
 ·have r1:((j:Int)<((G-F:Nat):Int))=False:=eq_false (by omega)
  obtain rfl:j=G-F:=by omega
  have hG2:F+(G-F)=G:=by omega
  rw [hG2,←hown]
  rw [hG2,←hown]at hsl
  clear hK2
  simp (disch:=omega) only [strs,r1,go_sem]
  repeat' first
   |((first|apply qd|apply qb);exact rvk;simp only [go_sem];first|exact ql|apply qe|apply qa|apply qf|skip)
   |with_reducible first|intro _|apply aiA
  all_goals try exact clz
  obtain ⟨W,hW⟩: ∃W,W=qig a k:=⟨_,rfl⟩
  have eW:=hW.symm
  rw [eW]at hsl ⊢
  have hWl:W.length=G-F:=by omega
  have hWb:W.length≤1000000000:=by omega
  have hy0:enU a k++enY a k 0=enU a k:=by show enU a k++ []=_;simp
  refine qu (T:=fun s:EY=>qT 200 [(2,zj a.cls),(3,qM a.b),(5,strs a.lay),(6,zk a.pos),(7,.op h.length 1 0),(11,.op (h.length+1) 1 0),(14,.op (h.length+2) 1 0),(15,.op (h.length+3) 1 0),(22,.int .i64 (k:Int)),(23,.op (h.length+6) v6 0),(24,.int .i64 (F:Int)),(25,.int .i64 (G:Int)),(26,.op (h.length+7) v7 0),(86,qE a.l),(87,.int .i64 a.l.length),(88,.int .i64 (k:Int)),(21,.osl (h.length+5) s.v 6 0 (enU a k++enY a k s.y).length),(116,.int .i64 a.lay.length),(117,.int .i64 s.y)])
   (H:=fun s=>h++ [.mem 1 26 (coC a.x),.mem 1 44 [qF a.gs],.mem 1 49 [.nl],.mem 1 35 [.int .i64 0],O4,zM s.v 58 (qbo (enU a k++enY a k s.y)),.mem v6 83 (unC u),.mem v7 22 [strs W],O8,O9,.emp (w+1),s.O11,s.O12,s.O13,.emp s.e14,s.O15,.emp 0])
   (inv:=fun s=>s.y≤a.lay.length∧qP [s.O11] 0=true∧qP [s.O12] 0=true∧qP [s.O13] 0=true∧qP [s.O15] 0=true) (m:=fun s=>a.lay.length-s.y) ⟨0,v,O11,O12,O13,e14,O15⟩ ⟨Nat.zero_le _,p11,p12,p13,p15⟩
   (Wk.trans (Wk.fzCell (j:=h.length+7) (k:=h.length+10) (i:=0) (v:=v7) (ty:=22) (cs:= [.osl (h.length+10) w 1 0 (G-F)]) (c:= .osl (h.length+10) w 1 0 (G-F)) (c':=strs W) ?d1 rfl ?d2 (by omega) ?d3) ?d4) ?d5
  case d1=>simp only [go_sem]
  case d2=>simp only [go_sem]
  case d3=>
   rw [qcg,getO_app]
   exact qcn (fun _=>rfl) hWl.symm
  case d4=>
   simp only [go_sem,hy0,List.set_cons_zero,unC]
   refine Wk.temps ?_
   (simp only [qE,zj,qM,wdC,strs,zk,unC,go_sem,qk,qh,qg,qj];try (repeat' first|(with_reducible apply aiA)|(apply qe;omega)|(apply qa;rfl)|exact ql))
  case d5=>
  rintro ⟨y,v,O11,O12,O13,e14,O15⟩ ⟨y1,p11,p12,p13,p15⟩ K3 hK3
  simp only at y1 p11 p12 p13 p15 hK3
  have p11': ∀m,qP (O11::m) 0=true:=fun _=>p11
  have p12': ∀m,qP (O12::m) 0=true:=fun _=>p12
  have p13': ∀m,qP (O13::m) 0=true:=fun _=>p13
  have p15': ∀m,qP (O15::m) 0=true:=fun _=>p15
  have hys:enY a k (y+1)=enY a k y++if vrK a k y= [] then [] else [enK a k y]:=rfl
  by_cases hy:y<a.lay.length
  case neg=>
   have r2:((y:Int)<a.lay.length)=False:=eq_false (by omega)
   obtain rfl:y=a.lay.length:=by omega
   have hus:enU a k++enY a k a.lay.length=enU a (k+1):=rfl
   rw [hus]
   simp (disch:=omega) only [strs,r2,go_sem]
   repeat' first
    |((first|apply qd|apply qb);exact rvk;simp only [go_sem];first|exact ql|apply qe|apply qa|apply qf|skip)
    |with_reducible first|intro _|apply aiA
   all_goals try exact clz
   refine hK _ _ ⟨k+1,v,.mem v6 83 (unC u),.mem v7 22 [strs W],O8,O9,w+1,O11,O12,O13,e14,O15⟩ ⟨hk,rfl,rfl,p8,p9,p11,p12,p13,p15⟩ (by simp only;omega) ?_
   simp only [unC]
   refine Wk.temps ?_
   (simp only [qE,zj,qM,wdC,strs,zk,unC,go_sem,qk,qh,qg,qj];try (repeat' first|(with_reducible apply aiA)|(apply qe;omega)|(apply qa;rfl)|exact ql))
  have r2:((y:Int)<a.lay.length)=True:=eq_true (by omega)
  have r3:((y:Int)<a.pos.length)=True:=eq_true (by omega)
  obtain ⟨pb,hpb⟩: ∃pb,pb=a.pos.getD y false:=⟨_,rfl⟩
  have epb:=hpb.symm
  obtain ⟨cl,hclx⟩: ∃cl,cl=a.cls.getD k []:=⟨_,rfl⟩
  have ecl:=hclx.symm
  simp (disch:=omega) only [strs,zk,r2,r3,epb,p11',go_sem]
  repeat' first
   |((first|apply qd|apply qb);exact rvk;simp only [go_sem];first|exact ql|apply qe|apply qa|apply qf|skip)
   |with_reducible first|intro _|apply aiA
  all_goals try exact clz
  obtain ⟨v11,hv11⟩: ∃v11,v11=qx (some O11)+1:=⟨_,rfl⟩
  simp only [←hv11]
  refine ⟨_,_,Wk.trans (Wk.cells (j:=h.length+11) (v:=v11) (ty:=58) (cs:= [.int .i64 (y:Int),.int .i64 (F:Int),.int .i64 (G:Int),.bool pb,.nl,.nl]) (cs':= [.int .i64 (y:Int),.int .i64 (F:Int),.int .i64 (G:Int),.bool pb,strs [],.nl]) ?m1 ?m2)
   (Wk.ownNil (j:=h.length+11) (i:=5) (k:=h.length+14) (v:=v11) (ty:=58) (cs:= [.int .i64 (y:Int),.int .i64 (F:Int),.int .i64 (G:Int),.bool pb,strs [],.nl]) (ve:=e14) (sz:=2) ?m3 rfl ?m4),?_⟩
  case m1=>simp only [go_sem]
  case m2=>exact ⟨ql,ql,ql,ql,kZ,ql,trivial⟩
  case m3=>simp only [go_sem]
  case m4=>simp only [go_sem]
  have c161:=fun h=>qDv u cl W a.lay (y:Int) h
  unfold unC strs at c161
  have kc:((k:Int)<a.cls.length)=True:=k8
  simp (disch:=omega) only [List.set_cons_succ,List.set_cons_zero,zj,strs,unC,k8,ecl,go_sem]
  repeat' first
   |((first|refine cA (c161 _) ?_ ?_|refine cG (fun e=>c161 _) ?_ ?_|refine cU (fun _=>c161 _) ?_ ?_);exact flk;simp (disch:=omega) only [zj,strs,k8,ecl,unC,go_sem])
   |((first|apply qd|apply qb);exact rvk;simp only [go_sem];first|exact ql|apply qe|apply qa|apply qf|skip)
   |with_reducible first|intro _|apply aiA
  all_goals try exact clz
  have hmem:u∈a.l:=by rw [hu,gdqA,zf hk];exact List.getElem_mem hk
  have hur:=(qaX hok.un).rg u hmem
  have hri:qfp u.rds a.x.sig.length:=by rw [hur.2.2.2];exact qg8 _ _ _
  have hsgl:=(qgE hok.co).sg
  have hsr: ∀r,r<u.rds.length→(u.rds.getD r default).src.length≤32∧qgc a.x.sig a.gs (u.rds.getD r default).src=0:=fun r hr=>by
   have h1:=hri.src (u.rds.getD r default) (by rw [gdqA,zf hr];exact List.getElem_mem hr)
   have h2:=qfu (hi:=((a.x.sig.length:Nat):Int)) (lo:=0) h1.1 h1.2
   refine ⟨by omega,?_⟩
   unfold qgc
   rw [if_pos g2]
   exact qrl h1.1 h1.2
  have h8:=qlf hz.g42 g2
  have zrl:=hz.un.rd k
  have zwd:=hz.un.wd k
  rw [eu]at zrl
  simp only [eu]at zwd
  have zcl:cl.length=u.rds.length:=by rw [←ecl,←eu];exact hcu
  have hV:=qzA g3 k y (a.l.getD k default).rds.length
  rw [eu,ecl,eW]at hV
  obtain ⟨VL,hVL⟩: ∃VL,VL=vrK a k y:=⟨_,rfl⟩
  have hV:VL=flG (vtB u.rds cl W a.lay (y:Int)) (fun r=>(⟨(u.rds.getD r default).words,shR a.x.sig a.gs (u.rds.getD r default).src⟩:Va)) u.rds.length:=by
   rw [hVL,←hV]
   unfold vrK
   rw [eu]
  have hxl:(vtX u.rds cl W a.lay (y:Int) u.rds.length).length=VL.length:=by rw [hV];exact qkZ _ _ _ _
  have hVLn:VL.length≤u.rds.length:=by rw [hV];exact qxf _ _ _
  have hix:=fun i hi=>qxe (p:=vtB u.rds cl W a.lay (y:Int)) (g:=fun r=>([.agg (rdC (u.rds.getD r default))]:List AV)) (k:=fun r=>(⟨(u.rds.getD r default).words,shR a.x.sig a.gs (u.rds.getD r default).src⟩:Va)) (n:=u.rds.length) (i:=i) hi
  rw [←hV]at hix
  refine qaP (xs:=vtX u.rds cl W a.lay (y:Int) u.rds.length) (itV u cl W a.lay (y:Int) zrl zcl zwd hWb (by omega) (fun i=>by have:=hz.yl i;omega)) ?e0
   (S:=fun i hh=> ∃w2 Q12 Q13,qP [Q12] 0=true∧qP [Q13] 0=true∧(Q12=O12∨ ∀n,qae n Q12)∧(Q13=O13∨ ∀n,qae n Q13)∧hh=h++ [.mem 1 26 (coC a.x),.mem 1 44 [qF a.gs],.mem 1 49 [.nl],.mem 1 35 [.int .i64 0],O4,zM v 58 (qbo (enU a k++enY a k y)),.mem v6 83 (unC u),.mem v7 22 [strs W],O8,O9,.emp (w+1),.mem v11 58 [.int .i64 (y:Int),.int .i64 (F:Int),.int .i64 (G:Int),.bool pb,strs [],.osl (h.length+14) w2 2 0 i],Q12,Q13,zM w2 85 (qdw (VL.take i)),O15,.emp 0])
   (E:=fun _ _=>False) ?e1 (fun _ _ h=>h.elim) ?e2 ?e3 ?e4 ?e5 (fun _ _ h=>h.elim)
  case e0=>
   intro x hx
   unfold vtX at hx
   obtain ⟨i,hi,e⟩:=List.getElem_of_mem hx
   obtain ⟨r,_,_,r3,_⟩:=hix i hi
   rw [←e,r3]
   rfl
  case e1=>
   rintro i hh ⟨w2,Q12,Q13,_,_,l12,l13,rfl⟩
   refine LowI.app rfl (fun o ho=> ?_)
   simp only [List.mem_cons,List.not_mem_nil,or_false]at ho
   have lft: ∀ {p q:Prop},p→p∨q:=fun h=> .inl h
   rcases ho with rfl|rfl|rfl|rfl|rfl|rfl|rfl|rfl|rfl|rfl|rfl|rfl|rfl|rfl|rfl|rfl|rfl
   case inr.inr.inr.inr.inr.inr.inr.inr.inr.inr.inr.inl=>
    right
    constructor<;>(intro c hc;simp only [List.mem_cons,List.not_mem_nil,or_false]at hc;rcases hc with rfl|rfl|rfl|rfl|rfl|rfl<;>simp [jd,qdO])
   case inr.inr.inr.inr.inr.inr.inr.inr.inr.inr.inr.inr.inl=>
    rcases l12 with rfl|l12
    ·left;simp only [List.mem_cons,true_or,or_true]
    ·right;exact ⟨l12 _,l12 _⟩
   case inr.inr.inr.inr.inr.inr.inr.inr.inr.inr.inr.inr.inr.inl=>
    rcases l13 with rfl|l13
    ·left;simp only [List.mem_cons,true_or,or_true]
    ·right;exact ⟨l13 _,l13 _⟩
   case inr.inr.inr.inr.inr.inr.inr.inr.inr.inr.inr.inr.inr.inr.inl=>
    right
    exact ⟨qay (qhm _ _),qay (qhm _ _)⟩
   all_goals
    left
    simp only [List.mem_cons,unC,strs,true_or,or_true]
  case e2=>exact ⟨e14,O12,O13,p12,p13,.inl rfl,.inl rfl,rfl⟩
  case e3=>
   have lw: ∀n,jd n (qM a.b)=true:=fun _=>rfl
   have lu: ∀n,jd n (qE a.l)=true:=fun _=>rfl
   have lr: ∀n,jd n (zC u.rds)=true:=fun _=>rfl
   simp [jd,jd.lowVs,lw,lu,lr]
   try omega
  case e4=>
   rintro i hh tl LI TS hi ⟨w2,Q12,Q13,q12,q13,l12,l13,rfl⟩ hlen K4 K5 hK4 hN hR' hX
   obtain ⟨r,ra,rb,rc,rd4⟩:=hix i hi
   have rc':(vtX u.rds cl W a.lay (y:Int) u.rds.length)[i]= [.agg (rdC (u.rds.getD r default))]:=rc
   rw [rc']
   rw [hxl]at hi
   have q12': ∀m,qP (Q12::m) 0=true:=fun _=>q12
   have q13': ∀m,qP (Q13::m) 0=true:=fun _=>q13
   obtain ⟨sl,sE⟩:=hsr r ra
   have zw:=zwd r
   obtain ⟨rd,hrd⟩: ∃rd,rd=u.rds.getD r default:=⟨_,rfl⟩
   rw [←hrd]at rd4 sl sE zw ⊢
   have c142:=fun h=>qCi a.x.sig a.gs rd.src h hsz (by omega) (fun _=>h8)
   simp only [sE]at c142
   obtain ⟨sh,hsh⟩: ∃sh,sh=shR a.x.sig a.gs rd.src:=⟨_,rfl⟩
   rw [←hsh]at rd4
   simp only [←hsh]at c142
   have hTk:VL.take (i+1)=VL.take i++ [⟨rd.words,sh⟩]:=by rw [List.take_add_one,rd4];rfl
   have hTl:(VL.take i).length=i:=by rw [List.length_take];omega
   have eVl:=qhl (VL.take i)
   rw [hTl]at eVl
   have eVk:List.take (i*2) (qdw (VL.take i))=qdw (VL.take i):=List.take_of_length_le (by omega)
   have eVn:qdw (VL.take (i+1))=qdw (VL.take i)++ [strs rd.words,strs sh]:=by rw [hTk,qqs];rfl
   unfold strs qq at c142
   simp only [qcb]
   simp (disch:=omega) only [List.append_assoc,coC,rdC,q12',go_sem]
   refine hK4 _ _ (h++ [.mem 1 26 (coC a.x),.mem 1 44 [qF a.gs],.mem 1 49 [.nl],.mem 1 35 [.int .i64 0],O4,zM v 58 (qbo (enU a k++enY a k y)),.mem v6 83 (unC u),.mem v7 22 [strs W],O8,O9,.emp (w+1),.mem v11 58 [.int .i64 (y:Int),.int .i64 (F:Int),.int .i64 (G:Int),.bool pb,strs [],.osl (h.length+14) w2 2 0 i],.mem (qx (some Q12)+1) 89 (rdC rd),Q13,zM w2 85 (qdw (VL.take i)),O15,.emp 0]) (by simp [coC,rdC]) (by simp) ?_
   simp (disch:=omega) only [List.append_assoc,coC,rdC,qq,strs,q13',eVl,eVk,Nat.mul_one,go_sem]
   repeat' first
    |((first|refine cA (c142 _) ?_ ?_|refine cG (fun e=>c142 _) ?_ ?_|refine cU (fun _=>c142 _) ?_ ?_);exact flk;simp (disch:=omega) only [List.append_assoc,coC,rdC,qq,strs,q13',eVl,eVk,Nat.mul_one,go_sem])
    |((first|apply qd|apply qb);exact rvk;simp only [go_sem];first|exact ql|apply qe|apply qa|apply qf|skip)
    |with_reducible first|intro _|apply aiA
   all_goals try exact clz
   have hl1: ∀n,qae n (.mem (qx (some Q12)+1) 89 (rdC rd)):=fun n c hc=>by
    simp only [rdC,List.mem_cons,List.not_mem_nil,or_false]at hc
    rcases hc with rfl|rfl<;>rfl
   have hl2: ∀n,qae n (.mem (qx (some Q13)+1) 85 [strs rd.words,strs sh]):=fun n c hc=>by
    simp only [List.mem_cons,List.not_mem_nil,or_false]at hc
    rcases hc with rfl|rfl<;>rfl
   refine hN _ _ (h++ [.mem 1 26 (coC a.x),.mem 1 44 [qF a.gs],.mem 1 49 [.nl],.mem 1 35 [.int .i64 0],O4,zM v 58 (qbo (enU a k++enY a k y)),.mem v6 83 (unC u),.mem v7 22 [strs W],O8,O9,.emp (w+1),.mem v11 58 [.int .i64 (y:Int),.int .i64 (F:Int),.int .i64 (G:Int),.bool pb,strs [],.osl (h.length+14) (w2+1) 2 0 (i+1)],.mem (qx (some Q12)+1) 89 (rdC rd),.mem (qx (some Q13)+1) 85 [strs rd.words,strs sh],zM (w2+1) 85 (qdw (VL.take (i+1))),O15,.emp 0]) (by rw [eVn,List.append_assoc];rfl) (by simp) ⟨w2+1,_,_,rfl,rfl,.inr hl1,.inr hl2,rfl⟩
  case e5=>
   rintro hh ⟨w2,Q12,Q13,q12,q13,l12,l13,rfl⟩
   have q12': ∀m,qP (Q12::m) 0=true:=fun _=>q12
   have q13': ∀m,qP (Q13::m) 0=true:=fun _=>q13
   rw [hxl,List.take_length]
   simp (disch:=omega) only [go_sem]
   refine ⟨_,_,Wk.fzCell (j:=h.length+11) (k:=h.length+14) (i:=5) (v:=v11) (ty:=58) (cs:= [.int .i64 (y:Int),.int .i64 (F:Int),.int .i64 (G:Int),.bool pb,strs [],.osl (h.length+14) w2 2 0 VL.length]) (c:= .osl (h.length+14) w2 2 0 VL.length) (c':=zX VL) ?n1 rfl ?n2 (by omega) ?n3,?_⟩
   case n1=>simp only [go_sem]
   case n2=>simp only [go_sem]
   case n3=>
    rw [qcg,getO_app]
    exact qp1 rfl
   have zv: ∀g,valL g .len [zX VL]= .int .i64 VL.length:=fun _=>rfl
   have zw: ∀g,okL g .len [zX VL]=True:=fun _=>eq_true trivial
   by_cases hV0:VL.length=0
   ·have n0:((VL.length:Int)=0)=True:=eq_true (by omega)
    simp (disch:=omega) only [List.set_cons_succ,List.set_cons_zero,zv,zw,n0,go_sem]
    repeat' first
     |((first|apply qd|apply qb);exact rvk;simp only [go_sem];first|exact ql|apply qe|apply qa|apply qf|skip)
     |with_reducible first|intro _|apply aiA
    all_goals try exact clz
    have hnil:VL= []:=List.eq_nil_of_length_eq_zero hV0
    rw [←hVL,hnil,if_pos rfl,List.append_nil]at hys
    refine hK3 _ _ ⟨y+1,v,.mem v11 58 [.int .i64 (y:Int),.int .i64 (F:Int),.int .i64 (G:Int),.bool pb,strs [],zX VL],Q12,Q13,w2+1,O15⟩ ⟨hy,rfl,q12,q13,p15⟩ (by simp only;omega) ?_
    simp only [hys]
    refine Wk.temps ?_
    (simp only [qE,zj,qM,wdC,strs,zk,unC,go_sem,qk,qh,qg,qj];try (repeat' first|(with_reducible apply aiA)|(apply qe;omega)|(apply qa;rfl)|exact ql))
   have n0:((VL.length:Int)=0)=False:=eq_false (by omega)
   have hne: ¬VL= []:=fun e=>hV0 (by rw [e];rfl)
   rw [←hVL,if_neg hne]at hys
   have eBA:baK a k=qad (fun r=>decide ((u.rds.getD r default).words=W)) u.rds.length 0:=by unfold baK;rw [eu,eW]
   have hBc:=zI (fun r=>decide ((u.rds.getD r default).words=W)) u.rds.length
   have hsu:suK a k y=if pb=true∧0≤baK a k then shR a.x.sig a.gs (u.rds.getD (baK a k).toNat default).src else []:=by unfold suK;rw [epb,eu]
   have hen:enC (enK a k y)= [.int .i64 (y:Int),.int .i64 (F:Int),.int .i64 (G:Int),.bool pb,strs (suK a k y),zX VL]:=by
    unfold enK enC
    rw [epb,←hF,←hG,←hVL]
   have hMl:=qkR a k y
   obtain ⟨M,hM⟩: ∃M,M=enU a k++enY a k y:=⟨_,rfl⟩
   have hMn:enU a k++enY a k (y+1)=M++ [enK a k y]:=by rw [hys,hM,List.append_assoc]
   rw [←hM]at hMl ⊢
   have hMb:M.length≤1000:=by
    have h1:k*a.lay.length≤12*18:=Nat.mul_le_mul (by omega) z3
    omega
   have eMl:=qgG M
   have eMk:List.take (M.length*6) (qbo M)=qbo M:=List.take_of_length_le (by omega)
   have eMn:qbo (enU a k++enY a k (y+1))=qbo M++enC (enK a k y):=by rw [hMn,qou,qow]
   have eMq:(enU a k++enY a k (y+1)).length=M.length+1:=by rw [hMn,List.length_append];rfl
   have c127:=fun H hk=>qA6 u.rds W (h.length+7) v7 H hk (by omega) zwd hWb
   rw [←eBA]at c127 hBc
   obtain ⟨bk,hbk⟩: ∃bk,bk=baK a k:=⟨_,rfl⟩
   rw [←hbk]at hsu hBc
   simp only [←hbk]at c127
   obtain ⟨su,hsux⟩: ∃su,su=suK a k y:=⟨_,rfl⟩
   rw [←hsux]at hsu hen
   simp (disch:=omega) only [List.set_cons_succ,List.set_cons_zero,zv,zw,n0,unC,go_sem]
   repeat' first
    |((first|apply qd|apply qb);exact rvk;simp only [go_sem];first|exact ql|apply qe|apply qa|apply qf|skip)
    |with_reducible first|intro _|apply aiA
   all_goals try exact clz
   refine cA (c127 _ ?ka) (by exact flk) ?_
   case ka=>simp only [go_sem]
   cases pb with
   |false=>
    rw [if_neg (by simp)]at hsu
    rw [hsu]at hen
    simp (disch:=omega) only [zk,r3,epb,p15',eMl,eMk,Nat.mul_one,go_sem]
    repeat' first
     |((first|apply qd|apply qb);exact rvk;simp only [go_sem];first|exact ql|apply qe|apply qa|apply qf|skip)
     |with_reducible first|intro _|apply aiA
    all_goals try exact clz
    rw [hen]at eMn
    try rw [←eMn]
    refine hK3 _ _ ⟨y+1,v+1,.mem v11 58 [.int .i64 (y:Int),.int .i64 (F:Int),.int .i64 (G:Int),.bool false,strs [],zX VL],Q12,Q13,w2+1,.mem (qx (some O15)+1) 58 [.int .i64 (y:Int),.int .i64 (F:Int),.int .i64 (G:Int),.bool false,strs [],zX VL]⟩ ⟨hy,rfl,q12,q13,rfl⟩ (by simp only;omega) ?_
    simp only [eMq]
    refine Wk.temps ?_
    (simp only [qE,zj,qM,wdC,strs,zk,unC,go_sem,qk,qh,qg,qj];try (repeat' first|(with_reducible apply aiA)|(apply qe;omega)|(apply qa;rfl)|exact ql))
   |true=>
   by_cases hb0:0≤bk
   case neg=>
    have n1:(0≤bk)=False:=eq_false hb0
    rw [if_neg (fun hc=>hb0 hc.2)]at hsu
    rw [hsu]at hen
    simp (disch:=omega) only [zk,r3,epb,p15',eMl,eMk,n1,Nat.mul_one,go_sem]
    repeat' first
     |((first|apply qd|apply qb);exact rvk;simp only [go_sem];first|exact ql|apply qe|apply qa|apply qf|skip)
     |with_reducible first|intro _|apply aiA
    all_goals try exact clz
    rw [hen]at eMn
    try rw [←eMn]
    refine hK3 _ _ ⟨y+1,v+1,.mem v11 58 [.int .i64 (y:Int),.int .i64 (F:Int),.int .i64 (G:Int),.bool true,strs [],zX VL],Q12,Q13,w2+1,.mem (qx (some O15)+1) 58 [.int .i64 (y:Int),.int .i64 (F:Int),.int .i64 (G:Int),.bool true,strs [],zX VL]⟩ ⟨hy,rfl,q12,q13,rfl⟩ (by simp only;omega) ?_
    simp only [eMq]
    refine Wk.temps ?_
    (simp only [qE,zj,qM,wdC,strs,zk,unC,go_sem,qk,qh,qg,qj];try (repeat' first|(with_reducible apply aiA)|(apply qe;omega)|(apply qa;rfl)|exact ql))
   case pos=>
    have n1:(0≤bk)=True:=eq_true hb0
    rw [if_pos ⟨rfl,hb0⟩]at hsu
    obtain ⟨r,hr1,hr2⟩: ∃r:Nat,bk=(r:Int)∧r<u.rds.length:=by
     rcases hBc with ⟨i,h1,_,_,h4⟩|⟨_,h2⟩
     ·exact ⟨i,h4,h1⟩
     ·omega
    rw [hr1]at n1
    rw [hr1,Int.toNat_natCast]at hsu
    simp only [hr1]
    have n2:((r:Int)<u.rds.length)=True:=eq_true (by omega)
    obtain ⟨sl,sE⟩:=hsr r hr2
    obtain ⟨rd,hrd⟩: ∃rd,rd=u.rds.getD r default:=⟨_,rfl⟩
    have erd:=hrd.symm
    rw [erd]at sl sE hsu
    have c142:=fun h=>qCi a.x.sig a.gs rd.src h hsz (by omega) (fun _=>h8)
    simp only [sE,←hsu]at c142
    unfold strs qq at c142
    simp (disch:=omega) only [zk,r3,epb,n1,n2,coC,unC,zC,rdC,qq,strs,erd,go_sem]
    repeat' first
     |((first|refine cA (c142 _) ?_ ?_|refine cG (fun e=>c142 _) ?_ ?_|refine cU (fun _=>c142 _) ?_ ?_);exact flk;simp (disch:=omega) only [zk,r3,epb,n1,n2,coC,unC,zC,rdC,qq,strs,erd,p15',eMl,eMk,Nat.mul_one,List.set_cons_succ,List.set_cons_zero,go_sem])
     |((first|apply qd|apply qb);exact rvk;simp only [go_sem];first|exact ql|apply qe|apply qa|apply qf|skip)
     |with_reducible first|intro _|apply aiA
    all_goals try exact clz
    rw [hen]at eMn
    unfold strs at eMn
    try rw [←eMn]
    refine hK3 _ _ ⟨y+1,v+1,.mem v11 58 [.int .i64 (y:Int),.int .i64 (F:Int),.int .i64 (G:Int),.bool true,strs su,zX VL],Q12,Q13,w2+1,.mem (qx (some O15)+1) 58 [.int .i64 (y:Int),.int .i64 (F:Int),.int .i64 (G:Int),.bool true,strs su,zX VL]⟩ ⟨hy,rfl,q12,q13,rfl⟩ (by simp only;omega) ?_
    simp only [eMq]
    refine Wk.temps ?_
    (simp only [qE,zj,qM,wdC,strs,zk,unC,go_sem,qk,qh,qg,qj];try (repeat' first|(with_reducible apply aiA)|(apply qe;omega)|(apply qa;rfl)|exact ql))
theorem qDl (e:En) (h:List AObj) (hs:e.sup.length≤1000000000) (hv:e.vars.length≤1000000000) (hw: ∀j,(e.vars.getD j default).words.length≤1000000000) (hg: ∀j,(e.vars.getD j default).sigla.length≤1000000000):
  ACalls Tryz.prog 30 [.agg (enC e),.agg (enC e)] h (.bool true) h:=by
 have c85:=fun h=>qBq e.sup e.sup h hs hs
 rw [decide_eq_true rfl]at c85
 have zv1: ∀g,valL g .len [zX e.vars]= .int .i64 e.vars.length:=fun _=>rfl
 have zv2: ∀g,okL g .len [zX e.vars]=True:=fun _=>eq_true trivial
 refine acO qAG ?_
 simp (disch:=omega) only [qBS,enC,zv1,zv2,go_sem]
 repeat' first
  |((first|refine cA (c85 _) ?_ ?_|refine cG (fun e=>c85 _) ?_ ?_|refine cU (fun _=>c85 _) ?_ ?_);exact flk;simp (disch:=omega) only [enC,zv1,zv2,go_sem])
  |((first|apply qd|apply qb);exact rvk;simp only [go_sem];first|exact ql|apply qe|apply qa|apply qf|skip)
  |with_reducible first|intro _|apply aiA
 all_goals try exact clz
 refine qu (T:=fun i:Nat=>qT 86 [(2,.op h.length 1 0),(3,.op (h.length+1) 1 0),(5,.int .i64 i)])
  (H:=fun _=>h++ [.mem 1 58 [.int .i64 e.layer,.int .i64 e.frm,.int .i64 e.to,.bool e.pos,strs e.sup,zX e.vars],.mem 1 58 [.int .i64 e.layer,.int .i64 e.frm,.int .i64 e.to,.bool e.pos,strs e.sup,zX e.vars]])
  (inv:=fun i=>i≤e.vars.length) (m:=fun i=>e.vars.length-i) 0 (Nat.zero_le _) (Wk.temps ?_) ?_
 ·(simp only [go_sem,qk,qh,qg,qj];try (repeat' first|(with_reducible apply aiA)|(apply qe;omega)|(apply qa;rfl)|exact ql))
 rintro i i1 K hK
 by_cases hi:i<e.vars.length
 ·have k1:((i:Int)<e.vars.length)=True:=eq_true (by omega)
  have cw:=fun h=>qBq (e.vars.getD i default).words (e.vars.getD i default).words h (hw i) (hw i)
  have cg:=fun h=>qBq (e.vars.getD i default).sigla (e.vars.getD i default).sigla h (hg i) (hg i)
  rw [decide_eq_true rfl]at cw cg
  obtain ⟨x,hx⟩: ∃x,x=e.vars.getD i default:=⟨_,rfl⟩
  have ex:=hx.symm
  simp only [ex]at cw cg
  have zz:zX e.vars= .sl e.vars.length fun i=>vaC (e.vars.getD i default):=rfl
  simp (disch:=omega) only [zz,vaC,k1,ex,go_sem]
  repeat' first
   |((first|refine cA (cw _) ?_ ?_|refine cG (fun e=>cw _) ?_ ?_|refine cA (cg _) ?_ ?_|refine cG (fun e=>cg _) ?_ ?_|refine cU (fun _=>cw _) ?_ ?_|refine cU (fun _=>cg _) ?_ ?_);exact flk;simp (disch:=omega) only [zz,vaC,k1,ex,go_sem])
   |((first|apply qd|apply qb);exact rvk;simp only [go_sem];first|exact ql|apply qe|apply qa|apply qf|skip)
   |with_reducible first|intro _|apply aiA
  all_goals try exact clz
  refine hK _ _ (i+1) hi (by omega) (Wk.temps ?_)
  (simp only [zz,go_sem,qk,qh,qg,qj];try (repeat' first|(with_reducible apply aiA)|(apply qe;omega)|(apply qa;rfl)|exact ql))
 ·have k1:((i:Int)<e.vars.length)=False:=eq_false (by omega)
  simp (disch:=omega) only [k1,zv1,zv2,go_sem]
  repeat' first
   |((first|apply qd|apply qb);exact rvk;simp only [go_sem];first|exact ql|apply qe|apply qa|apply qf|skip)
   |with_reducible first|intro _|apply aiA
  all_goals try exact clz
structure EqZ (l:List En):Prop where
 n:l.length≤1000000000
 s: ∀i,(l.getD i default).sup.length≤1000000000
 v: ∀i,(l.getD i default).vars.length≤1000000000
 w: ∀i j,((l.getD i default).vars.getD j default).words.length≤1000000000
 g: ∀i j,((l.getD i default).vars.getD j default).sigla.length≤1000000000
theorem qDk (l:List En) (h:List AObj) (hz:EqZ l):ACalls Tryz.prog 29 [qaC l,qaC l] h (.bool true) h:=by
 have c68:=fun i h=>qDl (l.getD i default) h (hz.s i) (hz.v i) (hz.w i) (hz.g i)
 have hn:=hz.n
 refine acO qAF ?_
 simp (disch:=omega) only [qBR,qaC,go_sem]
 repeat' first
  |((first|apply qd|apply qb);exact rvk;simp only [go_sem];first|exact ql|apply qe|apply qa|apply qf|skip)
  |with_reducible first|intro _|apply aiA
 all_goals try exact clz
 refine qu (T:=fun i:Nat=>qT 27 [(0,qaC l),(1,qaC l),(5,.int .i64 i)]) (H:=fun _=>h) (inv:=fun i=>i≤l.length) (m:=fun i=>l.length-i) 0 (Nat.zero_le _) (Wk.temps ?_) ?_
 ·(simp only [qaC,go_sem,qk,qh,qg,qj];try (repeat' first|(with_reducible apply aiA)|(apply qe;omega)|(apply qa;rfl)|exact ql))
 rintro i i1 K hK
 by_cases hi:i<l.length
 ·have k1:((i:Int)<l.length)=True:=eq_true (by omega)
  have c68:=c68 i
  obtain ⟨x,hx⟩: ∃x,x=l.getD i default:=⟨_,rfl⟩
  have ex:=hx.symm
  simp only [ex]at c68
  unfold enC at c68
  simp (disch:=omega) only [qaC,enC,k1,ex,go_sem]
  repeat' first
   |((first|refine cA (c68 _) ?_ ?_|refine cG (fun e=>c68 _) ?_ ?_|refine cU (fun _=>c68 _) ?_ ?_);exact flk;simp (disch:=omega) only [qaC,enC,k1,ex,go_sem])
   |((first|apply qd|apply qb);exact rvk;simp only [go_sem];first|exact ql|apply qe|apply qa|apply qf|skip)
   |with_reducible first|intro _|apply aiA
  all_goals try exact clz
  refine hK _ _ (i+1) hi (by omega) (Wk.temps ?_)
  (simp only [qaC,go_sem,qk,qh,qg,qj];try (repeat' first|(with_reducible apply aiA)|(apply qe;omega)|(apply qa;rfl)|exact ql))
 ·have k1:((i:Int)<l.length)=False:=eq_false (by omega)
  simp (disch:=omega) only [qaC,k1,go_sem]
  repeat' first
   |((first|apply qd|apply qb);exact rvk;simp only [go_sem];first|exact ql|apply qe|apply qa|apply qf|skip)
   |with_reducible first|intro _|apply aiA
  all_goals try exact clz
theorem qmx (names:List Str) (gs:List Gr) (S:List Int):(shR names gs S).length≤200:=by
 unfold shR
 split
 ·rw [List.length_map]
  unfold qz4
  obtain ⟨k,_,e⟩:=qj4 gs (jv S) (kW gs (jv S)) (2^(kW gs (jv S)).length-1)
  rw [e,qdU]
  have h1:=zS k.testBit 64
  have h2:=zS (anN (jv S) (chN (usM gs (kW gs (jv S))) k)).testBit 64
  unfold qnD
  omega
 ·exact Nat.zero_le _
theorem qs0 {a:Ap} (hz:qrC a):(enR a).length≤216:=by
 unfold enR
 split
 ·have h1:=qkR a a.l.length 0
  have h2:a.l.length*a.lay.length≤12*18:=Nat.mul_le_mul hz.l12 hz.y18
  have h3:enU a a.l.length++enY a a.l.length 0=enU a a.l.length:=by show _++ []=_;simp
  rw [h3]at h1
  omega
 ·exact Nat.zero_le _
structure EnZ (e:En):Prop where
 s:e.sup.length≤200
 v:e.vars.length≤1000000000
 w: ∀j,(e.vars.getD j default).words.length≤1000000000
 g: ∀j,(e.vars.getD j default).sigla.length≤200
theorem qw4 {a:Ap} (hz:qrC a) (k y:Nat):EnZ (enK a k y):=by
 refine ⟨?_,?_,?_,?_⟩
 ·show (suK a k y).length≤200
  unfold suK
  split
  ·exact qmx _ _ _
  ·exact Nat.zero_le _
 ·show (vrK a k y).length≤_
  rw [qnt]
  unfold vrI
  have h1:=List.length_filter_le (vrP a k y) (List.range (a.l.getD k default).rds.length)
  rw [List.length_range]at h1
  exact Nat.le_trans h1 (hz.un.rd k)
 ·intro j
  show ((vrK a k y).getD j default).words.length≤_
  by_cases hj:j<(vrK a k y).length
  ·obtain ⟨r,_,e⟩:=kV hj
   rw [e]
   exact hz.un.wd k r
  ·rw [gdqA,List.getElem?_eq_none (by omega)]
   exact Nat.zero_le _
 ·intro j
  show ((vrK a k y).getD j default).sigla.length≤_
  by_cases hj:j<(vrK a k y).length
  ·obtain ⟨r,_,e⟩:=kV hj
   rw [e]
   exact qmx _ _ _
  ·rw [gdqA,List.getElem?_eq_none (by omega)]
   exact Nat.zero_le _
theorem qw7 {a:Ap} (hz:qrC a) (i:Nat):EnZ ((enR a).getD i default):=by
 by_cases hi:i<(enR a).length
 ·have hm:=qa6 hi
  by_cases hE:enE a=0
  ·obtain ⟨k,_,y,_,_,e⟩:=(qfK hE).1 hm
   rw [e]
   exact qw4 hz k y
  ·unfold enR at hi
   rw [if_neg hE]at hi
   cases hi
 ·rw [gdqA,List.getElem?_eq_none (by omega)]
  exact ⟨Nat.zero_le _,Nat.zero_le _,fun _=>Nat.zero_le _,fun _=>Nat.zero_le _⟩
deriving instance DecidableEq for Va
deriving instance DecidableEq for En
def tkS (s:Str):Tk:=⟨s,s,[],0,0,[]⟩
def qd0:Str:= [100,101,117,115]
def qvv:Str:= [101,115,116]
def qbj:Str:= [98,111,110,117,115]
def xCo:Co:=⟨[97],[[65],[66]],[[tkS qd0,tkS qvv,tkS qbj],[tkS qd0,tkS qbj]],[[0,0],[1,-1],[2,1]]⟩
def xUn:List Un:= [⟨1,2,[⟨[qvv],[0]⟩,⟨[],[1]⟩]⟩]
def xCl:List (List Str):= [[[98,97,115,101],[111,109,105,115,115,105,111,110]]]
def xBa:List Wd:= [⟨qd0,0,-1,-1,false,false,[]⟩,⟨qvv,1,0,-1,false,false,[]⟩,⟨qbj,2,-1,-1,false,false,[]⟩]
def xLa:List Str:= [[111,109,105,115,115,105,111,110]]
def xAp:Ap:=⟨xCo,xUn,xCl,xBa,[],xLa,[true]⟩
def xEn:List En:= [⟨0,1,2,true,[[65]],[⟨[],[[66]]⟩]⟩]
def xL3:List Str:= [[97,32,98],[99],[100]]
theorem qBL:enE xAp=0:=by decide+kernel
theorem qBM:enR xAp=xEn:=by decide+kernel
theorem qvg:lyR xL3 [120]=2∧lyE xL3=0:=by decide+kernel
theorem qBN:lyR xL3 [98]=0:=by decide+kernel
end RC
end
section
namespace AF
open Go
end AF
end
section
open Go Go.Proofs AF
def qtp:List Nat:= [96]
def qBP:C:=
 ((C.ops [MC 0 (.bool false)]).seq ((C.ops [⟨some 10,none,.build [.str [],i6 0,i6 0,i6 0,.bool false,.bool false,.str []] [(0,1),(2,1),(3,1)],[.c (.str [100,101,117,
 115]),.c (i6 (-1)),.c (i6 (-1))]⟩,⟨some 11,none,.build [.str [],i6 0,i6 0,i6 0,.bool false,.bool false,.str []] [(0,1),(1,1),(3,1)],[.c (.str [101,115,116]),.c
 (i6 1),.c (i6 (-1))]⟩,⟨some 12,none,.build [.str [],i6 0,i6 0,i6 0,.bool false,.bool false,.str []] [(0,1),(1,1),(2,1),(3,1)],[.c (.str [98,111,110,117,115]),
 .c (i6 2),.c (i6 (-1)),.c (i6 (-1))]⟩,⟨some 13,none,.bslc 0 7 3 64 [.str [],i6 0,i6 0,i6 0,.bool false,.bool false,.str []] [(0,7),(7,7),(14,7)],[.t 10,.t 11,.t
 12]⟩,MV 1 13]).seq ((C.ops [⟨some 14,none,.bslc 1 1 1 9 [.str []] [(0,1)],[.c (.str [101,115,116])]⟩,⟨some 15,none,.bslc 2 1 1 3 [i6 0] [(0,1)],[.c (i6 0)]⟩,⟨some 16,
 none,.build [.nl,.nl] [(0,1),(1,1)],[.t 14,.t 15]⟩,⟨some 17,none,.bslc 3 1 1 3 [i6 0] [(0,1)],[.c (i6 1)]⟩,⟨some 18,none,.build [.nl,.nl] [(1,1)],[.t 17]⟩,⟨some
 19,none,.bslc 4 2 2 89 [.nl,.nl] [(0,2),(2,2)],[.t 16,.t 18]⟩,⟨some 20,none,.build [i6 0,i6 0,.nl] [(0,1),(1,1),(2,1)],[.c (i6 1),.c (i6 2),.t 19]⟩,⟨some 21,
 none,.bslc 5 3 1 83 [i6 0,i6 0,.nl] [(0,3)],[.t 20]⟩,MV 2 21]).seq ((C.ops [ON 23 (.call 97 true) [],MV 24 2,⟨some 25,none,.bslc 6 1 2 9 [.str []] [(0,1),(1,1)],[.c
 (.str [98,97,115,101]),.c (.str [111,109,105,115,115,105,111,110])]⟩,⟨some 26,none,.bslc 7 1 1 22 [.nl] [(0,1)],[.t 25]⟩,MV 27 1,⟨some 28,none,.bslc 8 1 1 9
 [.str []] [(0,1)],[.c (.str [111,109,105,115,115,105,111,110])]⟩,⟨some 29,none,.bslc 9 1 1 4 [.bool false] [(0,1)],[.c (.bool true)]⟩,ON 30 (.call 96 false) [.t 23,
 .t 24,.t 26,.t 27,.c .nl,.t 28,.t 29],MV 22 30,O1 31 (.ext 0) 22,O1 32 (.ext 1) 22,MV 3 31,MV 4 32]).seq ((C.ops [⟨some 33,none,.bslc 10 1 1 9 [.str []] [(0,1)],[.c
 (.str [65])]⟩,⟨some 34,none,.bslc 11 1 1 9 [.str []] [(0,1)],[.c (.str [66])]⟩,⟨some 35,none,.build [.nl,.nl] [(1,1)],[.t 34]⟩,⟨some 36,none,.bslc 12 2 1 85 [.nl,
 .nl] [(0,2)],[.t 35]⟩,⟨some 37,none,.build [i6 0,i6 0,i6 0,.bool false,.nl,.nl] [(1,1),(2,1),(3,1),(4,1),(5,1)],[.c (i6 1),.c (i6 2),.c (.bool true),.t 33,
 .t 36]⟩,⟨some 38,none,.bslc 13 6 1 58 [i6 0,i6 0,i6 0,.bool false,.nl,.nl] [(0,6)],[.t 37]⟩,MV 5 38]).seq ((C.ops [⟨some 40,none,.bslc 14 1 3 9 [.str []] [(0,1),(1,
 1),(2,1)],[.c (.str [97,32,98]),.c (.str [99]),.c (.str [100])]⟩,OC 41 (.call 27 true) 40 (.str [120]),MV 39 41,O1 42 (.ext 0) 39,O1 43 (.ext 1) 39,MV 6 42,MV 7
 43]).seq ((C.ops [⟨some 45,none,.bslc 15 1 3 9 [.str []] [(0,1),(1,1),(2,1)],[.c (.str [97,32,98]),.c (.str [99]),.c (.str [100])]⟩,OC 46 (.call 27 true) 45 (.str
 [98]),MV 44 46,O1 47 (.ext 0) 44,O1 48 (.ext 1) 44,MV 8 47,MV 9 48]).seq ((C.ops [MV 49 4,MV 50 7,MV 51 9,ON 52 (.mm true) [.t 49,.t 50,.t 51],BC 53 .eql 52 (i6 0),MV
 54 53,MG 55 54 true 3,MG 56 54 true 5,P2 57 54 true (.call 29 true) 55 56,PF 58 54 57,MV 59 58,MG 60 59 true 6,PC 61 59 true (.bin .eql) 60 (i6 2),PF 62 59 61,MV 63 62,MG
 64 63 true 8,PC 65 63 true (.bin .eql) 64 (i6 0),PF 66 63 65,MV 0 66]).seq
 C.ret))))))))
theorem qAD:qK Tryz.prog 24 67 16 [RV.tmp 0] qBP:=fi Tryz.f24 [13,14,15,17,19,21,25,26,28,29,33,34,36,38,40,45] qtp []
end
section
open Go Go.Proofs AF HY LN
namespace RC
theorem il1 {f g:Nat→List AV} (h:f 0=g 0):ILe (.sl 1 f) (.sl 1 g):=ILe.sl_eq fun i hi=>by
 obtain rfl:i=0:=by omega
 exact h
theorem il2 {f g:Nat→List AV} (h0:f 0=g 0) (h1:f 1=g 1):ILe (.sl 2 f) (.sl 2 g):=ILe.sl_eq fun i hi=>by
 match i,hi with
 |0,_=>exact h0
 |1,_=>exact h1
 |n+2,hi=>exact absurd hi (by omega)
theorem il3 {f g:Nat→List AV} (h0:f 0=g 0) (h1:f 1=g 1) (h2:f 2=g 2):ILe (.sl 3 f) (.sl 3 g):=ILe.sl_eq fun i hi=>by
 match i,hi with
 |0,_=>exact h0
 |1,_=>exact h1
 |2,_=>exact h2
 |n+3,hi=>exact absurd hi (by omega)
theorem im1 {f g:Nat→List AV} (h:kX (f 0) (g 0)):ILe (.sl 1 f) (.sl 1 g):=ILe.sl fun i hi=>by
 obtain rfl:i=0:=by omega
 exact h
theorem im2 {f g:Nat→List AV} (h0:kX (f 0) (g 0)) (h1:kX (f 1) (g 1)):ILe (.sl 2 f) (.sl 2 g):=ILe.sl fun i hi=>by
 match i,hi with
 |0,_=>exact h0
 |1,_=>exact h1
 |n+2,hi=>exact absurd hi (by omega)
theorem vl1 {f g:Nat→List AV} (h:kX (f 0) (g 0)):VLe (.sl 1 f) (.sl 1 g):=VLe.sl fun i hi=>by
 obtain rfl:i=0:=by omega
 exact h
theorem vl2 {f g:Nat→List AV} (h0:kX (f 0) (g 0)) (h1:kX (f 1) (g 1)):VLe (.sl 2 f) (.sl 2 g):=VLe.sl fun i hi=>by
 match i,hi with
 |0,_=>exact h0
 |1,_=>exact h1
 |n+2,hi=>exact absurd hi (by omega)
theorem vl3 {f g:Nat→List AV} (h0:kX (f 0) (g 0)) (h1:kX (f 1) (g 1)) (h2:kX (f 2) (g 2)):VLe (.sl 3 f) (.sl 3 g):=VLe.sl fun i hi=>by
 match i,hi with
 |0,_=>exact h0
 |1,_=>exact h1
 |2,_=>exact h2
 |n+3,hi=>exact absurd hi (by omega)
theorem ie {a b:AV} (h:a=b):ILe a b:=by rw [h];exact ILe.refl _
theorem qBt (s:Str) (h:List AObj):ACalls Tryz.prog 163 [.str s] h (.agg (tkC (tkS s))) h:=by
 unfold tkS tkC
 refine acO qxx ?_
 simp (disch:=omega) only [qvY,go_sem]
 repeat' first
  |((first|apply qd|apply qb);exact rvk;simp only [go_sem];first|exact ql|apply qe|apply qa|apply qf|skip)
  |with_reducible first|intro _|apply aiA
 all_goals try exact clz
theorem qvf:qnA xAp=false:=by decide+kernel
theorem qDD:qrC xAp:=qlg qvf
theorem qBp (h:List AObj):ACalls Tryz.prog 97 [] h (.agg (coC xCo)) h:=by
 have c1:=fun s h=>qBt s h
 unfold tkC tkS at c1
 refine acO qAZ ?_
 simp (disch:=omega) only [qB3,go_sem]
 repeat' first
  |((first|refine cA (c1 qd0 _) ?_ ?_|refine cG (fun e=>c1 qd0 _) ?_ ?_|refine cA (c1 qvv _) ?_ ?_|refine cG (fun e=>c1 qvv _) ?_ ?_|refine cA (c1 qbj _) ?_ ?_|refine cG (fun e=>c1 qbj _) ?_ ?_|refine cA (c1 qd0 _) ?_ ?_|refine cG (fun e=>c1 qd0 _) ?_ ?_|refine cA (c1 qbj _) ?_ ?_|refine cG (fun e=>c1 qbj _) ?_ ?_|refine cU (fun _=>c1 qd0 _) ?_ ?_|refine cU (fun _=>c1 qvv _) ?_ ?_|refine cU (fun _=>c1 qbj _) ?_ ?_|refine cU (fun _=>c1 qd0 _) ?_ ?_|refine cU (fun _=>c1 qbj _) ?_ ?_);exact flk;simp (disch:=omega) only [go_sem])
  |((first|apply qd|apply qb);exact rvk;simp only [go_sem];first|exact ql|apply qe|apply qa|apply qf|skip)
  |with_reducible first|intro _|apply aiA
 all_goals try exact clz
 refine VLe.agg ⟨ql,vl2 ⟨ie rfl,trivial⟩ ⟨ie rfl,trivial⟩,vl2 ⟨?a1,trivial⟩ ⟨?a2,trivial⟩,vl3 ⟨?a3,trivial⟩ ⟨?a4,trivial⟩ ⟨?a5,trivial⟩,trivial⟩
 case a1=>simp only [go_sem];exact il3 rfl rfl rfl
 case a2=>simp only [go_sem];exact il2 rfl rfl
 case a3=>simp only [go_sem];exact il2 rfl rfl
 case a4=>simp only [go_sem];exact il2 rfl rfl
 case a5=>simp only [go_sem];exact il2 rfl rfl
theorem qBb (a:Ap) (h:List AObj) (hz:qrC a) (hp:kY SG h):ACalls Tryz.prog 25 [.agg (apC a)] h (.tup [qaC (enR a),.int .i64 (enE a)]) h:=by
 have c1:=fun l=>qB7 a (h++l) hz (hp.app l)
 unfold coC at c1
 refine acO qAE ?_
 simp (disch:=omega) only [qBQ,apC,go_sem]
 repeat' first
  |((first|refine cA (c1 _) ?_ ?_|refine cG (fun e=>c1 _) ?_ ?_|refine cU (fun _=>c1 _) ?_ ?_);exact flk;simp (disch:=omega) only [apC,go_sem])
  |((first|apply qd|apply qb);exact rvk;simp only [go_sem];first|exact ql|apply qe|apply qa|apply qf|skip)
  |with_reducible first|intro _|apply aiA
 all_goals try exact clz
theorem qAi (h:List AObj) (hp:kY SG h):ACalls Tryz.prog 24 [] h (.bool true) h:=by
 have c1:=fun h=>qBp h
 refine acO qAD ?_
 simp (disch:=omega) only [qBP,go_sem]
 repeat' first
  |((first|refine cA (c1 _) ?_ ?_|refine cG (fun e=>c1 _) ?_ ?_|refine cU (fun _=>c1 _) ?_ ?_);exact flk;simp (disch:=omega) only [go_sem])
  |((first|apply qd|apply qb);exact rvk;simp only [go_sem];first|exact ql|apply qe|apply qa|apply qf|skip)
  |with_reducible first|intro _|apply aiA
 all_goals try exact clz
 have zm:valP (.mm true) [.int .i64 0,.int .i64 0,.int .i64 0]= .int .i64 0:=rfl
 have zn:okP (.mm true) [.int .i64 0,.int .i64 0,.int .i64 0]=True:=eq_true (by simp [okP,qb8])
 have c2:=fun l=>qB7 xAp (h++l) qDD (hp.app l)
 rw [qBL,qBM]at c2
 refine qeq (r:= .tup [qaC xEn,.int .i64 0]) (h':=h++ [.emp 2,.emp 2,.emp 2,.emp 2,.emp 2,.emp 2,.emp 2,.emp 2,.emp 2,.emp 2,.emp 0,.emp 0,.emp 0,.emp 0,.emp 0,.emp 0])
  (qCY [h.length,h.length+1,h.length+2,h.length+3,h.length+4,h.length+5,h.length+6,h.length+7,h.length+8,h.length+9] (by simp only [kl,go_sem]) ?c) (by exact flk) ?_
 case c=>
  simp only [qc0,go_sem]
  refine ACalls.le (c2 _) ?_ (ql)
  obtain ⟨fz,hfz⟩: ∃fz:Nat→Bool,fz=fun k=> [h.length,h.length+1,h.length+2,h.length+3,h.length+4,h.length+5,h.length+6,h.length+7,h.length+8,h.length+9].contains k:=⟨_,rfl⟩
  rw [←hfz]
  have f0:fz h.length=true:=by rw [hfz];simp
  have f1:fz (h.length+1)=true:=by rw [hfz];simp
  have f2:fz (h.length+2)=true:=by rw [hfz];simp
  have f3:fz (h.length+3)=true:=by rw [hfz];simp
  have f4:fz (h.length+4)=true:=by rw [hfz];simp
  have f5:fz (h.length+5)=true:=by rw [hfz];simp
  have f6:fz (h.length+6)=true:=by rw [hfz];simp
  have f7:fz (h.length+7)=true:=by rw [hfz];simp
  have f8:fz (h.length+8)=true:=by rw [hfz];simp
  have f9:fz (h.length+9)=true:=by rw [hfz];simp
  have g0:([h.length,h.length+1,h.length+2,h.length+3,h.length+4,h.length+5,h.length+6,h.length+7,h.length+8,h.length+9]:List Nat).contains h.length=true:=by simp
  have g1:([h.length,h.length+1,h.length+2,h.length+3,h.length+4,h.length+5,h.length+6,h.length+7,h.length+8,h.length+9]:List Nat).contains (h.length+1)=true:=by simp
  have g2:([h.length,h.length+1,h.length+2,h.length+3,h.length+4,h.length+5,h.length+6,h.length+7,h.length+8,h.length+9]:List Nat).contains (h.length+2)=true:=by simp
  have g3:([h.length,h.length+1,h.length+2,h.length+3,h.length+4,h.length+5,h.length+6,h.length+7,h.length+8,h.length+9]:List Nat).contains (h.length+3)=true:=by simp
  have g4:([h.length,h.length+1,h.length+2,h.length+3,h.length+4,h.length+5,h.length+6,h.length+7,h.length+8,h.length+9]:List Nat).contains (h.length+4)=true:=by simp
  have g5:([h.length,h.length+1,h.length+2,h.length+3,h.length+4,h.length+5,h.length+6,h.length+7,h.length+8,h.length+9]:List Nat).contains (h.length+5)=true:=by simp
  have g6:([h.length,h.length+1,h.length+2,h.length+3,h.length+4,h.length+5,h.length+6,h.length+7,h.length+8,h.length+9]:List Nat).contains (h.length+6)=true:=by simp
  have g7:([h.length,h.length+1,h.length+2,h.length+3,h.length+4,h.length+5,h.length+6,h.length+7,h.length+8,h.length+9]:List Nat).contains (h.length+7)=true:=by simp
  have g8:([h.length,h.length+1,h.length+2,h.length+3,h.length+4,h.length+5,h.length+6,h.length+7,h.length+8,h.length+9]:List Nat).contains (h.length+8)=true:=by simp
  have g9:([h.length,h.length+1,h.length+2,h.length+3,h.length+4,h.length+5,h.length+6,h.length+7,h.length+8,h.length+9]:List Nat).contains (h.length+9)=true:=by simp
  clear hfz
  simp only [go_sem,coC,List.map_cons,List.map_nil,f0,f1,f2,f3,f4,f5,f6,f7,f8,f9,g0,g1,g2,g3,g4,g5,g6,g7,g8,g9,if_true]
  refine ⟨ql,vl1 ⟨ie rfl,ie rfl,?b1,trivial⟩,vl1 ⟨?b2,trivial⟩,VLe.sl_eq rfl (fun i hi=> ?b3),kZ,VLe.sl_eq rfl (fun i hi=> ?b4),VLe.sl_eq rfl (fun i hi=> ?b5),trivial⟩
  case b1=>
   simp only [go_sem,f0,f1,f2,f3,f4,f5,f6,f7,f8,f9,g0,g1,g2,g3,g4,g5,g6,g7,g8,g9,if_true]
   refine im2 ⟨?u1,?u2,trivial⟩ ⟨ILe.nl,?u3,trivial⟩
   all_goals
    simp only [go_sem,f0,f1,f2,f3,f4,f5,f6,f7,f8,f9,g0,g1,g2,g3,g4,g5,g6,g7,g8,g9,if_true]
    exact il1 rfl
  case b2=>
   simp only [go_sem,f0,f1,f2,f3,f4,f5,f6,f7,f8,f9,g0,g1,g2,g3,g4,g5,g6,g7,g8,g9,if_true]
   exact il2 rfl rfl
  case b3=>
   match i,hi with
   |0,_=>rfl
   |1,_=>rfl
   |2,_=>rfl
   |n+3,hi=>exact absurd hi (by omega)
  case b4=>
   obtain rfl:i=0:=by omega
   rfl
  case b5=>
   obtain rfl:i=0:=by omega
   rfl
 simp (disch:=omega) only [go_sem]
 repeat' first
  |((first|apply qd|apply qb);exact rvk;simp only [go_sem];first|exact ql|apply qe|apply qa|apply qf|skip)
  |with_reducible first|intro _|apply aiA
 all_goals try exact clz
 have lz: ∀i,(xL3.getD i []).length≤100000000:=qY xL3 (fun s=>s.length≤100000000) (by decide) (by decide)
 refine cA (r:= .tup [.int .i64 2,.int .i64 0]) ?d (by exact flk) ?_
 case d=>
  have c2:=lyP xL3 [120] [] (by decide) lz
  rw [qvg.1,qvg.2]at c2
  refine ACalls.borrow (c2.le ?_ (ql)) (by simp [qa4,jM])
  simp only [List.map_cons,List.map_nil,go_sem]
  exact ⟨VLe.sl_eq rfl (fun i hi=>by
   match i,hi with
   |0,_=>rfl
   |1,_=>rfl
   |2,_=>rfl
   |n+3,hi=>exact absurd hi (by omega)),ql,trivial⟩
 simp (disch:=omega) only [go_sem]
 repeat' first
  |((first|apply qd|apply qb);exact rvk;simp only [go_sem];first|exact ql|apply qe|apply qa|apply qf|skip)
  |with_reducible first|intro _|apply aiA
 all_goals try exact clz
 refine cA (r:= .tup [.int .i64 0,.int .i64 0]) ?e (by exact flk) ?_
 case e=>
  have c2:=lyP xL3 [98] [] (by decide) lz
  rw [qBN,qvg.2]at c2
  refine ACalls.borrow (c2.le ?_ (ql)) (by simp [qa4,jM])
  simp only [List.map_cons,List.map_nil,go_sem]
  exact ⟨VLe.sl_eq rfl (fun i hi=>by
   match i,hi with
   |0,_=>rfl
   |1,_=>rfl
   |2,_=>rfl
   |n+3,hi=>exact absurd hi (by omega)),ql,trivial⟩
 simp (disch:=omega) only [zm,zn,go_sem]
 repeat' first
  |((first|apply qd|apply qb);exact rvk;simp only [go_sem];first|exact ql|apply qe|apply qa|apply qf|skip)
  |with_reducible first|intro _|apply aiA
 all_goals try exact clz
 have xz:EqZ xEn:=by
  refine ⟨by decide,?_,?_,?_,?_⟩
  ·exact qY xEn (fun e=>e.sup.length≤1000000000) (by decide) (by decide)
  ·exact qY xEn (fun e=>e.vars.length≤1000000000) (by decide) (by decide)
  ·exact qY xEn (fun e=> ∀j,(e.vars.getD j default).words.length≤1000000000) (fun j=>by simp [show (default:En).vars= []from rfl,show (default:Va).words= []from rfl]) fun i hi=>by
    obtain rfl:i=0:=by have:xEn.length=1:=rfl;omega
    exact qY _ (fun v:Va=>v.words.length≤1000000000) (by decide) (by decide)
  ·exact qY xEn (fun e=> ∀j,(e.vars.getD j default).sigla.length≤1000000000) (fun j=>by simp [show (default:En).vars= []from rfl,show (default:Va).sigla= []from rfl]) fun i hi=>by
    obtain rfl:i=0:=by have:xEn.length=1:=rfl;omega
    exact qY _ (fun v:Va=>v.sigla.length≤1000000000) (by decide) (by decide)
 refine cG (fun _=>ACalls.borrow ((qDk xEn [] xz).le ?g1 (ql)) rfl) (fun _=>by exact flk) ?_
 case g1=>
  simp only [List.map_cons,List.map_nil,go_sem]
  refine ⟨ql,vl1 ⟨ie rfl,ie rfl,ie rfl,ie rfl,?h1,?h2,trivial⟩,trivial⟩
  case h1=>simp only [go_sem,if_true];exact il1 rfl
  case h2=>
   simp only [go_sem,if_true]
   refine im1 ⟨ILe.nl,?h3,trivial⟩
   simp only [go_sem,if_true]
   exact il1 rfl
 simp (disch:=omega) only [go_sem]
 repeat' first
  |((first|apply qd|apply qb);exact rvk;simp only [go_sem];first|exact ql|apply qe|apply qa|apply qf|skip)
  |with_reducible first|intro _|apply aiA
 all_goals try exact clz
end RC
end
section
open Go Go.Proofs AF
end
section
open Go Go.Proofs AF HY LN
namespace RC
end RC
end
section
open Go Go.Proofs AF
end
section
open Go Go.Proofs AF HY LN
namespace RC
section
variable {q : En → Bool} {L : List En} {J : Nat}
end
section
variable {k v w : Nat} {h l : List AObj} {ty : TypeId} {cs : List AV}
end
end RC
end
section
open Go Go.Proofs AF
end
section
open Go Go.Proofs AF HY LN
namespace RC
end RC
end
section
open Go Go.Proofs AF
def qln:List Nat:= []
def qAn:C:=
 ((C.ops [MC 2 (.bool false)]).seq ((C.ops [MV 3 0,OC 4 (.call 92 true) 3 (.fn (Fn.func 136) [] []),O1 5 (.un UnOp.not) 4,MV 2 5]).seq
 C.ret))
theorem qyn:qK Tryz.prog 64 6 0 [RV.tmp 2] qAn:=fi Tryz.f64 [] qln []
def qrZ:C:=
 ((C.ops [O1 1 (.box 0 64) 0,MC 2 (.bool false)]).seq ((C.ops [O1 3 (.fldA 0) 1,LD 4 3,⟨some 5,none,.build [.str [],.str [],i6 0] [(0,1)],[.t 4]⟩,O1 6 (.call 137 true) 5,
 BC 7 .neq 6 (i6 0),MV 2 7]).seq
 C.ret))
theorem qqT:qK Tryz.prog 136 8 1 [RV.tmp 2] qrZ:=fi Tryz.f136 [1] qln []
end
section
open Go Go.Proofs AF
end
section
open Go Go.Proofs AF HY LN
namespace RC
theorem qBK (b:List Wd) (h:List AObj) (hn:b.length≤1000000):ACalls Tryz.prog 48 [qM b] h (strs (jX b)) h:=by
 refine acO qAL ?_
 simp (disch:=omega) only [qBU,qM,go_sem]
 repeat' first
  |((first|apply qd|apply qb);exact rvk;simp only [go_sem];first|exact ql|apply qe|apply qa|apply qf|skip)
  |with_reducible first|intro _|apply aiA
 all_goals try exact clz
 refine qu (T:=fun s:Nat×Nat×AObj×AObj=>qT 19 [(6,qM b),(7,.int .i64 b.length),(8,.int .i64 s.1),(3,.osl (h.length+1) s.2.1 1 0 s.1)])
  (H:=fun s=>h++ [.emp 1,zM s.2.1 9 (jj (jX (b.take s.1))),s.2.2.1,s.2.2.2,.emp 0])
  (inv:=fun s=>s.1≤b.length∧qP [s.2.2.1] 0=true∧qP [s.2.2.2] 0=true) (m:=fun s=>b.length-s.1) (0,1,.emp 0,.emp 0) ⟨Nat.zero_le _,rfl,rfl⟩ (Wk.temps ?_) ?_
 ·(simp only [qM,List.take_zero,jX,List.map_nil,go_sem,qk,qh,qg,qj];try (repeat' first|(with_reducible apply aiA)|(apply qe;omega)|(apply qa;rfl)|exact ql))
 rintro ⟨i,v,O1,O2⟩ ⟨i1,i2,i3⟩ K hK
 simp only at i1 i2 i3 hK
 have i2': ∀m,qP (O1::m) 0=true:=fun _=>i2
 have i3': ∀m,qP (O2::m) 0=true:=fun _=>i3
 have eL:(jX (b.take i)).length=i:=by unfold jX;rw [List.length_map,List.length_take];omega
 by_cases hi:i<b.length
 ·have k1:((i:Int)<b.length)=True:=eq_true (by omega)
  have hS:jX (b.take (i+1))=jX (b.take i)++ [(b.getD i default).text]:=by
   unfold jX
   rw [List.take_add_one,zf hi,gdqA,zf hi,List.map_append]
   rfl
  obtain ⟨L,hL⟩: ∃L,L=jX (b.take i):=⟨_,rfl⟩
  rw [←hL]at hS eL ⊢
  obtain ⟨w,hw⟩: ∃w,w=b.getD i default:=⟨_,rfl⟩
  have ew:=hw.symm
  rw [ew]at hS
  have eC:=jL L
  have eTk:List.take i (jj L)=jj L:=List.take_of_length_le (by omega)
  simp (disch:=omega) only [qM,wdC,k1,ew,i2',i3',eC,eL,eTk,Nat.mul_one,go_sem]
  repeat' first
   |((first|apply qd|apply qb);exact rvk;simp only [go_sem];first|exact ql|apply qe|apply qa|apply qf|skip)
   |with_reducible first|intro _|apply aiA
  all_goals try exact clz
  have eA:jj L++ [AV.str w.text]=jj (L++ [w.text]):=by simp [jj]
  have eD:(AV.str w.text::List.drop 1 (zu [AV.str []] 1))= [AV.str w.text]:=rfl
  rw [eA,eD]
  refine hK _ _ (i+1,v+1,.mem (qx (some O1)+1) 64 (wdC w),.mem (qx (some O2)+1) 9 [.str w.text]) ⟨hi,rfl,rfl⟩ (by simp only;omega) ?_
  simp only [hS,wdC]
  refine Wk.temps ?_
  (simp only [qM,wdC,go_sem,qk,qh,qg,qj];try (repeat' first|(with_reducible apply aiA)|(apply qe;omega)|(apply qa;rfl)|exact ql))
 have k1:((i:Int)<b.length)=False:=eq_false (by omega)
 obtain rfl:i=b.length:=by omega
 rw [List.take_length]at eL ⊢
 simp (disch:=omega) only [k1,go_sem]
 repeat' first
  |((first|apply qd|apply qb);exact rvk;simp only [go_sem];first|exact ql|apply qe|apply qa|apply qf|skip)
  |with_reducible first|intro _|apply aiA
 all_goals try exact clz
 exact qcn (fun _=>rfl) eL.symm
theorem kn1 (w:Wd) (h:List AObj) (hs:w.text.length≤1000000000) (hp:kY SG h):ACalls Tryz.prog 136 [.agg (wdC w)] h (.bool (decide (¬wE w.text=0))) h:=by
 have c1:=fun l=>qC8 w.text (h++l) hs (hp.app l)
 by_cases g:wE w.text=0
 ·have k1:(wE w.text=0)=True:=eq_true g
  rw [decide_eq_false (fun hc=>hc g)]
  refine acO qqT ?_
  simp (disch:=omega) only [qrZ,wdC,k1,go_sem]
  repeat' first
   |((first|refine cA (c1 _) ?_ ?_|refine cG (fun e=>c1 _) ?_ ?_|refine cU (fun _=>c1 _) ?_ ?_);exact flk;simp (disch:=omega) only [wdC,k1,go_sem])
   |((first|apply qd|apply qb);exact rvk;simp only [go_sem];first|exact ql|apply qe|apply qa|apply qf|skip)
   |with_reducible first|intro _|apply aiA
  all_goals try exact clz
 ·have k1:(wE w.text=0)=False:=eq_false g
  rw [decide_eq_true g]
  refine acO qqT ?_
  simp (disch:=omega) only [qrZ,wdC,k1,go_sem]
  repeat' first
   |((first|refine cA (c1 _) ?_ ?_|refine cG (fun e=>c1 _) ?_ ?_|refine cU (fun _=>c1 _) ?_ ?_);exact flk;simp (disch:=omega) only [wdC,k1,go_sem])
   |((first|apply qd|apply qb);exact rvk;simp only [go_sem];first|exact ql|apply qe|apply qa|apply qf|skip)
   |with_reducible first|intro _|apply aiA
  all_goals try exact clz
theorem knP (b:List Wd) (h:List AObj) (hn:b.length≤1000000) (hs: ∀i,(b.getD i default).text.length≤1000000000) (hp:kY SG h):ACalls Tryz.prog 64 [qM b] h (.bool (decide (jg (jX b)=0))) h:=by
 have ht: ∀j,j<b.length→(jX b).getD j []=(b.getD j default).text:=fun j hj=>by
  unfold jX
  rw [gdqA,List.getElem?_map,zf hj,gdqA,zf hj]
  rfl
 have hl:(jX b).length=b.length:=by unfold jX;rw [List.length_map]
 have e0:zd (fun j=>decide (¬wE (b.getD j default).text=0)) b.length= !decide (jg (jX b)=0):=by
  by_cases g:jg (jX b)=0
  ·rw [decide_eq_true g,Bool.not_true,qo]
   intro j hj
   refine decide_eq_false fun hc=>hc ?_
   have:=jk.1 g j (by omega)
   rwa [ht j hj]at this
  ·rw [decide_eq_false g,Bool.not_false]
   cases h1:zd (fun j=>decide (¬wE (b.getD j default).text=0)) b.length with
   |true=>rfl
   |false=>
    exfalso
    refine g (jk.2 fun j hj=> ?_)
    have:=of_decide_eq_false (qo.1 h1 j (by omega))
    rw [ht j (by omega)]
    exact Classical.not_not.1 this
 have c1:=fun l=>qhK qoO ⟨rfl,rfl⟩ ⟨rfl,rfl⟩ (qaD qgK b.length (fun j=>wdC (b.getD j default)) (fun j=> .agg (wdC (b.getD j default))) 136 [] [] (fun j=>decide (¬wE (b.getD j default).text=0)) (h++l) (fun i _=>⟨rfl,by simp [zZ,wdC],rfl,rfl,rfl⟩) (fun i _=>kn1 _ _ (hs i) (hp.app l)) (by omega))
 simp only [e0]at c1
 have c1:=c1 []
 rw [List.append_nil]at c1
 have zz:qM b= .sl b.length fun j=>wdC (b.getD j default):=rfl
 rw [zz]
 by_cases g:jg (jX b)=0
 ·rw [decide_eq_true g]
  simp only [decide_eq_true g,Bool.not_true]at c1
  refine acO qyn ?_
  simp (disch:=omega) only [qAn,go_sem]
  repeat' first
   |((first|refine cA (c1) ?_ ?_|refine cG (fun e=>c1) ?_ ?_);exact flk;simp (disch:=omega) only [go_sem])
   |((first|apply qd|apply qb);exact rvk;simp only [go_sem];first|exact ql|apply qe|apply qa|apply qf|skip)
   |with_reducible first|intro _|apply aiA
  all_goals try exact clz
 ·rw [decide_eq_false g]
  simp only [decide_eq_false g,Bool.not_false]at c1
  refine acO qyn ?_
  simp (disch:=omega) only [qAn,go_sem]
  repeat' first
   |((first|refine cA (c1) ?_ ?_|refine cG (fun e=>c1) ?_ ?_);exact flk;simp (disch:=omega) only [go_sem])
   |((first|apply qd|apply qb);exact rvk;simp only [go_sem];first|exact ql|apply qe|apply qa|apply qf|skip)
   |with_reducible first|intro _|apply aiA
  all_goals try exact clz
theorem qyu {a:Ap} (h:qnA a=false) (k r j:Nat):((((a.l.getD k default).rds.getD r default).words).getD j []).length≤20:=by
 unfold qnA qrc at h
 simp only [Bool.or_eq_false_iff]at h
 have h1:=h.2.1.1
 rw [qo]at h1
 refine qY a.l (fun u:Un=>(((u.rds.getD r default).words).getD j []).length≤20) (by simp [show (default:Un).rds= []from rfl,show (default:Rd).words= []from rfl]) (fun i hi=> ?_) k
 have:=h1 i hi
 unfold guB at this
 rw [Bool.or_eq_false_iff,qo]at this
 refine qY (a.l.getD i default).rds (fun u:Rd=>((u.words).getD j []).length≤20) (by simp [show (default:Rd).words= []from rfl]) (fun m hm=> ?_) r
 have h3:=this.2 m hm
 unfold guR at h3
 rw [Bool.or_eq_false_iff]at h3
 exact (qlm h3.2).2 j
theorem qAB {a:Ap} (h:qnA a=false) (i j m:Nat):(((((enR a).getD i default).vars.getD j default).words).getD m []).length≤20:=by
 refine qY (enR a) (fun e:En=>(((e.vars.getD j default).words).getD m []).length≤20) (by simp [show (default:En).vars= []from rfl,show (default:Va).words= []from rfl]) (fun i hi=> ?_) i
 have hm:=qa6 hi
 by_cases hE:enE a=0
 ·obtain ⟨k,_,y,_,_,e⟩:=(qfK hE).1 hm
  rw [e]
  show ((((vrK a k y).getD j default).words).getD m []).length≤20
  by_cases hj:j<(vrK a k y).length
  ·obtain ⟨r,_,e⟩:=kV hj
   rw [e]
   exact qyu h k r m
  ·rw [gdqA (l:=vrK a k y),List.getElem?_eq_none (by omega)]
   exact Nat.zero_le _
 ·unfold enR at hi
  rw [if_neg hE]at hi
  cases hi
end RC
end
section
open Go Go.Proofs AF
def qtq:List Nat:= [66,1000055,1000056,1000057,1000061,1000062,1000063,1000067,1000068,1000069,1000071,1000072,1000073,1000074,1000075,1000076]
def qvL:C:=
 ((C.ops [O1 1 (.box 0 47) 0,MC 2 (.bool false)]).seq (((C.ops [O1 8 (.load (some 10)) 1,O1 9 (.call 23 true) 8,MV 10 9,P1 11 10 false (.fldA 6) 1,P1 12 10 false (.load none)
 11,P1 13 10 false (.call 64 true) 12,P1 14 10 false (.un UnOp.not) 13,PT 15 10 14]).seq (C.cond (.t 15) ((C.ops [ON 16 (.call 24 true) [],MV 2 16]).seq C.ret) C.skip)).seq
 ((C.ops [O1 18 (.load (some 10)) 1,O1 19 (.call 25 true) 18,MV 17 19,O1 20 (.ext 0) 17,O1 21 (.ext 1) 17,MV 3 20,MV 4 21]).seq (((C.ops [MV 22 4,BC 23 .neq 22 (i6 0)]).seq
 (C.cond (.t 23) ((C.ops [MV 24 3,O1 25 .len 24,BC 26 .eql 25 (i6 0),MV 27 26,PN 28 27 true (.call 24 true) [],PF 29 27 28,MV 2 29]).seq C.ret) C.skip)).seq ((C.ops [O1 30
 (.fldA 6) 1,LD 31 30,O1 32 (.call 48 true) 31,MV 5 32]).seq (((C.ops [MV 33 3,O1 34 .len 33,MC 35 (i6 0)]).seq (C.block 0 ((C.ops [BI 36 .lss 35 34]).seq ((C.cond (.t 36)
 C.skip (C.exit 0)).seq ((C.block 1 ((C.ops [MV 37 35,O2 38 (.idxA 6) 33 35,O1 39 (.load (some 6)) 38,⟨some 7,none,.alloc 1 58 [i6 0,i6 0,i6 0,.bool false,.nl,.nl],[]⟩,
 MV 6 37,ST 6 7 39]).seq (((C.ops [O1 40 (.fldA 0) 1,O1 41 (.fldA 1) 40,LD 42 41,O1 43 (.fldA 7) 1,LD 44 43,MV 45 5,O1 46 (.load (some 6)) 7,ON 47 (.call 65 true) [.t 42,.t
 44,.t 45,.t 46],BC 48 .neq 47 (i6 0)]).seq (C.cond (.t 48) ((C.ops [MC 2 (.bool false)]).seq C.ret) C.skip)).seq ((C.wk.seq (C.draw (DT.one ⟨some 49,none,.mv,[.t 6]⟩ (DT.one
 ⟨some 50,none,.bin .gtr,[.t 49,.c (i6 0)]⟩ (DT.one ⟨some 51,none,.mv,[.t 50]⟩ (DT.one ⟨some 52,some (51,true),.mv,[.t 3]⟩ (DT.one ⟨some 53,some (51,true),.mv,[.t 6]⟩
 (DT.one ⟨some 54,some (51,true),.bin .sub,[.t 53,.c (i6 1)]⟩ (DT.one ⟨some 55,some (51,true),.idxI 6,[.t 52,.t 54]⟩ (DT.one ⟨some 56,some (51,true),.fldI 1,[.t 55]⟩
 (DT.one ⟨some 57,some (51,true),.loadI none,[.t 56]⟩ (DT.one ⟨some 58,some (51,true),.mv,[.t 3]⟩ (DT.one ⟨some 59,some (51,true),.mv,[.t 6]⟩ (DT.one ⟨some 60,some (51,
 true),.bin .sub,[.t 59,.c (i6 1)]⟩ (DT.one ⟨some 61,some (51,true),.idxI 6,[.t 58,.t 60]⟩ (DT.one ⟨some 62,some (51,true),.fldI 2,[.t 61]⟩ (DT.one ⟨some 63,some (51,
 true),.loadI none,[.t 62]⟩ (DT.one ⟨some 64,some (51,true),.mv,[.t 3]⟩ (DT.one ⟨some 65,some (51,true),.mv,[.t 6]⟩ (DT.one ⟨some 66,some (51,true),.bin .sub,[.t 65,
 .c (i6 1)]⟩ (DT.one ⟨some 67,some (51,true),.idxI 6,[.t 64,.t 66]⟩ (DT.one ⟨some 68,some (51,true),.fldI 0,[.t 67]⟩ (DT.one ⟨some 69,some (51,true),.loadI none,[.t
 68]⟩ (DT.one ⟨some 70,some (51,true),.bslc 2 1 3 3 [i6 0] [(0,1),(1,1),(2,1)],[.t 57,.t 63,.t 69]⟩ (DT.one ⟨some 71,some (51,true),.fldI 1,[.t 7]⟩ (DT.one ⟨some 72,
 some (51,true),.loadI none,[.t 71]⟩ (DT.one ⟨some 73,some (51,true),.fldI 2,[.t 7]⟩ (DT.one ⟨some 74,some (51,true),.loadI none,[.t 73]⟩ (DT.one ⟨some 75,some (51,
 true),.fldI 0,[.t 7]⟩ (DT.one ⟨some 76,some (51,true),.loadI none,[.t 75]⟩ (DT.one ⟨some 77,some (51,true),.bslc 3 1 3 3 [.int .i64 (Int.ofNat 0)] [(0,1),(1,1),(2,
 1)],[.t 72,.t 74,.t 76]⟩ (DT.one ⟨some 78,some (51,true),.call 66 false,[.t 70,.t 77]⟩ (DT.one ⟨some 79,some (51,true),.bin .geq,[.t 78,.c (.int .i64 (Int.ofNat 0))]⟩
 (DT.one ⟨some 80,none,.pick,[.t 51,.t 79,.c (.bool false)]⟩ DT.nil)))))))))))))))))))))))))))))))))).seq (C.cond (.t 80) ((C.ops [MC 2 (.bool false)]).seq C.ret)
 C.skip))))).seq (C.ops [BC 81 .add 35 (i6 1),MV 35 81])))).loop)).seq ((C.ops [ON 82 (.call 24 true) [],MV 2 82]).seq
 C.ret)))))))
theorem qoN:qK Tryz.prog 11 83 4 [RV.tmp 2] qvL:=fi Tryz.f11 [1,7,70,77] qtq [12]
end
section
open Go Go.Proofs AF HY LN
namespace RC
theorem qwQ {e f:En} (h:qw5 e f):qkC [e.frm,e.to,e.layer] [f.frm,f.to,f.layer]= -1:=by
 have lt: ∀ {a b:Int},a<b→qkB a b= -1:=fun h=>if_pos h
 have eq: ∀ {a:Int},qkB a a=0:=fun {a}=>by unfold qkB;rw [if_neg (Int.lt_irrefl a),if_neg (Int.lt_irrefl a)]
 unfold qkC
 simp only [List.length_cons,List.length_nil,qbp,List.getD_cons_zero,List.getD_cons_succ]
 rcases h with h|⟨h1,h|⟨h2,h3⟩⟩
 ·rw [lt h];rfl
 ·rw [h1,eq,lt h];rfl
 ·rw [h1,h2,eq,eq,lt h3];rfl
theorem qAw (a b:List Int) (k v k2 v2:Nat) (h:List AObj) (n m:Nat) (hn:n=a.length) (hm:m=b.length) (hk:getO k h=some (zM v 3 (qH a))) (hk2:getO k2 h=some (zM v2 3 (qH b))) (hl:a.length=b.length) (ha:a.length≤1000000000):ACalls Tryz.prog 66 [.osl k v 1 0 n,.osl k2 v2 1 0 m] h (.int .i64 (qkC a b)) h:=by
 subst hn
 subst hm
 refine ACalls.borrow ((qB4 a b [] hl ha).le ?_ (ql)) rfl
 simp only [List.map_cons,List.map_nil,rei_osl,if_true,hk,hk2]
 exact ⟨qaz (fun _=>rfl) rfl,qaz (fun _=>rfl) rfl,trivial⟩
theorem qA7 (a:Ap) (h:List AObj) (hp:kY SG h) (hb:ApB a):ACalls Tryz.prog 11 [.agg (apC a)] h (.bool true) h:=by
 have c24:=fun l=>qAi (h++l) (hp.app l)
 have c23:=fun h=>grP a h hb
 obtain ⟨g,hg⟩: ∃g,g=qnA a:=⟨_,rfl⟩
 rw [←hg]at c23
 cases g with
 |true=>
  refine acO qoN ?_
  simp (disch:=omega) only [qvL,apC,go_sem]
  repeat' first
   |(refine qn ( .bool false) ?_;simp (disch:=omega) only [apC,go_sem])
   |((first|refine cA (c23 _) ?_ ?_|refine cG (fun e=>c23 _) ?_ ?_|refine cA (c24 _) ?_ ?_|refine cG (fun e=>c24 _) ?_ ?_|refine cU (fun _=>c23 _) ?_ ?_|refine cU (fun _=>c24 _) ?_ ?_);exact flk;simp (disch:=omega) only [apC,go_sem])
   |((first|apply qd|apply qb);exact rvk;simp only [go_sem];first|exact ql|apply qe|apply qa|apply qf|skip)
   |with_reducible first|intro _|apply aiA
  all_goals try exact clz
 |false=>
  have hz:=qlg hg.symm
  have hn:=qs0 hz
  have z14:=hz.b14
  have zbt:=fun i=>Nat.le_trans (hz.bt i) (show 30≤1000000000 by decide)
  have c64:=fun l=>knP a.b (h++l) (by omega) zbt (hp.app l)
  have c48:=fun h=>qBK a.b h (by omega)
  have c25:=fun l=>qBb a (h++l) hz (hp.app l)
  by_cases gw:jg (jX a.b)=0
  case neg=>
   simp only [decide_eq_false gw]at c64
   refine acO qoN ?_
   simp (disch:=omega) only [qvL,apC,go_sem]
   repeat' first
    |((first|refine cA (c23 _) ?_ ?_|refine cG (fun e=>c23 _) ?_ ?_|refine cA (c64 _) ?_ ?_|refine cG (fun e=>c64 _) ?_ ?_|refine cA (c24 _) ?_ ?_|refine cG (fun e=>c24 _) ?_ ?_|refine cU (fun _=>c23 _) ?_ ?_|refine cU (fun _=>c64 _) ?_ ?_|refine cU (fun _=>c24 _) ?_ ?_);exact flk;simp (disch:=omega) only [apC,go_sem])
    |((first|apply qd|apply qb);exact rvk;simp only [go_sem];first|exact ql|apply qe|apply qa|apply qf|skip)
    |with_reducible first|intro _|apply aiA
   all_goals try exact clz
  simp only [decide_eq_true gw]at c64
  have hsz:=qrd hz.g42
  have hno:enE a≠0→(enR a).length=0:=fun hx=>by unfold enR;rw [if_neg hx];rfl
  obtain ⟨E,hE⟩: ∃E,E=enE a:=⟨_,rfl⟩
  obtain ⟨L,hL⟩: ∃L,L=enR a:=⟨_,rfl⟩
  have zl: ∀g,valL g .len [qaC L]= .int .i64 L.length:=fun _=>rfl
  have zm: ∀g,okL g .len [qaC L]=True:=fun _=>eq_true trivial
  rw [←hE,←hL]at c25
  rw [←hE,←hL]at hno
  by_cases gE:E=0
  case neg=>
   have kE:(E=0)=False:=eq_false gE
   have kL:((L.length:Int)=0)=True:=eq_true (by have:=hno gE;omega)
   refine acO qoN ?_
   simp (disch:=omega) only [qvL,apC,go_sem]
   repeat' first
    |((first|refine cA (c23 _) ?_ ?_|refine cG (fun e=>c23 _) ?_ ?_|refine cA (c64 _) ?_ ?_|refine cG (fun e=>c64 _) ?_ ?_|refine cA (c25 _) ?_ ?_|refine cG (fun e=>c25 _) ?_ ?_|refine cA (c24 _) ?_ ?_|refine cG (fun e=>c24 _) ?_ ?_|refine cU (fun _=>c23 _) ?_ ?_|refine cU (fun _=>c64 _) ?_ ?_|refine cU (fun _=>c25 _) ?_ ?_|refine cU (fun _=>c24 _) ?_ ?_);exact flk;simp (disch:=omega) only [apC,kE,kL,zl,zm,go_sem])
    |((first|apply qd|apply qb);exact rvk;simp only [go_sem];first|exact ql|apply qe|apply qa|apply qf|skip)
    |with_reducible first|intro _|apply aiA
   all_goals try exact clz
  have kE:(E=0)=True:=eq_true gE
  have hE0:enE a=0:=hE▸gE
  have hck: ∀i,i<L.length→qqI a.x.sig a.gs (jX a.b) (L.getD i default)=0:=fun i hi=>by
   have hm:L.getD i default∈enR a:=by rw [←hL];exact qa6 hi
   obtain ⟨k,hk,y,hy,hv,e⟩:=(qfK hE0).1 hm
   rw [e]
   exact qxa hE0 gw (by omega) hk hy hv
  have hlt: ∀i,0<i→i<L.length→qw5 (L.getD (i-1) default) (L.getD i default):=fun i h0 hi=>by
   have hpw:=qw6 a
   rw [←hL]at hpw
   have:=List.pairwise_iff_getElem.1 hpw (i-1) i (by omega) hi (by omega)
   rw [gdqA,zf (by omega),gdqA,zf hi]
   exact this
  have hsv:=fun i=>(qw7 hz i)
  have hwv:=fun i j m=>qAB hg.symm i j m
  rw [←hL]at hn
  simp only [←hL]at hsv hwv
  have hltx:(jX a.b).length=a.b.length:=by unfold jX;rw [List.length_map]
  have htx:TSz (jX a.b):=⟨by rw [hltx];omega,qY (jX a.b) (fun s=>s.length≤1000000000) (Nat.zero_le _) (fun i hi=>by
   unfold jX
   rw [gdqA,List.getElem?_map,zf (by omega)]
   have:=zbt i
   rw [gdqA,zf (by omega)]at this
   exact this)⟩
  obtain ⟨W,hW⟩: ∃W,W=jX a.b:=⟨_,rfl⟩
  rw [←hW]at htx
  simp only [←hW]at c48 hck
  have zz:qaC L= .sl L.length fun i=>enC (L.getD i default):=rfl
  refine acO qoN ?_
  simp (disch:=omega) only [qvL,apC,go_sem]
  repeat' first
   |((first|refine cA (c23 _) ?_ ?_|refine cG (fun e=>c23 _) ?_ ?_|refine cA (c64 _) ?_ ?_|refine cG (fun e=>c64 _) ?_ ?_|refine cA (c25 _) ?_ ?_|refine cG (fun e=>c25 _) ?_ ?_|refine cA (c48 _) ?_ ?_|refine cG (fun e=>c48 _) ?_ ?_|refine cU (fun _=>c23 _) ?_ ?_|refine cU (fun _=>c64 _) ?_ ?_|refine cU (fun _=>c25 _) ?_ ?_|refine cU (fun _=>c48 _) ?_ ?_);exact flk;simp (disch:=omega) only [apC,kE,zl,zm,go_sem])
   |((first|apply qd|apply qb);exact rvk;simp only [go_sem];first|exact ql|apply qe|apply qa|apply qf|skip)
   |with_reducible first|intro _|apply aiA
  all_goals try exact clz
  refine qu (T:=fun s:Nat×AObj×AObj×AObj=>qT 83 [(1,.op h.length 1 0),(3,qaC L),(5,strs W),(33,qaC L),(34,.int .i64 L.length),(35,.int .i64 s.1)])
   (H:=fun s=>h++ [.mem 1 47 (apC a),s.2.1,s.2.2.1,s.2.2.2])
   (inv:=fun s=>s.1≤L.length∧qP [s.2.1] 0=true∧qP [s.2.2.1] 0=true∧qP [s.2.2.2] 0=true) (m:=fun s=>L.length-s.1) (0,.emp 0,.emp 0,.emp 0) ⟨Nat.zero_le _,rfl,rfl,rfl⟩ (Wk.temps ?_) ?_
  ·(simp only [apC,go_sem,qk,qh,qg,qj];try (repeat' first|(with_reducible apply aiA)|(apply qe;omega)|(apply qa;rfl)|exact ql))
  rintro ⟨i,O1,O2,O3⟩ ⟨i1,i2,i3,i4⟩ K hK
  simp only at i1 i2 i3 i4 hK
  have i2': ∀m,qP (O1::m) 0=true:=fun _=>i2
  have i3': ∀m,qP (O2::m) 0=true:=fun _=>i3
  have i4': ∀m,qP (O3::m) 0=true:=fun _=>i4
  by_cases hi:i<L.length
  case neg=>
   have k1:((i:Int)<L.length)=False:=eq_false (by omega)
   simp (disch:=omega) only [k1,go_sem]
   repeat' first
    |((first|refine cA (c24 _) ?_ ?_|refine cG (fun e=>c24 _) ?_ ?_|refine cU (fun _=>c24 _) ?_ ?_);exact flk;simp (disch:=omega) only [k1,go_sem])
    |((first|apply qd|apply qb);exact rvk;simp only [go_sem];first|exact ql|apply qe|apply qa|apply qf|skip)
    |with_reducible first|intro _|apply aiA
   all_goals try exact clz
  have k1:((i:Int)<L.length)=True:=eq_true (by omega)
  have k0:(0≤(i:Int))=True:=eq_true (by omega)
  have c47:=fun l=>qCG a.x.sig a.gs W (L.getD i default) (h++l) hsz htx ⟨Nat.le_trans (hsv i).s (by decide),(hsv i).v,fun j=>⟨(hsv i).w j,fun m=>Nat.le_trans (hwv i j m) (by decide)⟩,fun j=>Nat.le_trans ((hsv i).g j) (by decide)⟩ (hp.app l)
  simp only [hck i hi]at c47
  have hlti:=hlt i
  obtain ⟨e,he⟩: ∃e,e=L.getD i default:=⟨_,rfl⟩
  have ee:=he.symm
  simp only [ee]at c47 hlti
  have eC:enC e= [.int .i64 e.layer,.int .i64 e.frm,.int .i64 e.to,.bool e.pos,strs e.sup,zX e.vars]:=rfl
  rw [eC]at c47
  simp (disch:=omega) only [apC,k0,k1,ee,eC,i2',zz,go_sem]
  repeat' first
   |((first|refine cA (c47 _) ?_ ?_|refine cG (fun e=>c47 _) ?_ ?_|refine cU (fun _=>c47 _) ?_ ?_);exact flk;simp (disch:=omega) only [apC,k0,k1,ee,eC,i2',zz,go_sem])
   |((first|apply qd|apply qb);exact rvk;simp only [go_sem];first|exact ql|apply qe|apply qa|apply qf|skip)
   |with_reducible first|intro _|apply aiA
  all_goals try exact clz
  refine ⟨qT 83 [(1,.op h.length 1 0),(3,qaC L),(5,strs W),(6,.int .i64 i),(7,.ip [.int .i64 e.layer,.int .i64 e.frm,.int .i64 e.to,.bool e.pos,strs e.sup,zX e.vars]),(33,qaC L),(34,.int .i64 L.length),(35,.int .i64 i)],_,Wk.trans (Wk.freeze [h.length+1] (by simp only [kl,go_sem])) (Wk.temps ?_),?_⟩
  ·(simp only [List.map,zz,go_sem,qk,qh,qg,qj];try (repeat' first|(with_reducible apply aiA)|(apply qe;omega)|(apply qa;rfl)|exact ql))
   all_goals first
    |(rw [if_neg (by simp)];exact ql)
    |(rw [if_pos (by simp),if_pos (by simp)];exact ql)
  simp only [qc0,List.map,go_sem]
  have eC1:enC e= [.int .i64 e.layer,.int .i64 e.frm,.int .i64 e.to,.bool e.pos,strs e.sup,zX e.vars]:=rfl
  by_cases h0:0<i
  case neg=>
   have k2:((0:Int)<i)=False:=eq_false (by omega)
   refine qfI ?T ?H ?h1 ?h2
   case h1=>
    simp (disch:=omega) only [apC,k0,k1,k2,i3',i4',zz,go_sem]
    repeat' first
     |(refine qn ( .int .i64 0) ?_;simp (disch:=omega) only [apC,k0,k1,k2,i3',i4',zz,go_sem])
     |((first|apply qd|apply qb);exact rvk;simp only [go_sem];first|exact ql|apply qe|apply qa|apply qf|skip)
     |with_reducible first|intro _|apply aiA
    all_goals first
     |omega
     |rfl
     |(simp<;>fail)
   case h2=>
   simp (disch:=omega) only [go_sem]
   repeat' first
    |((first|apply qd|apply qb);exact rvk;simp only [go_sem];first|exact ql|apply qe|apply qa|apply qf|skip)
    |with_reducible first|intro _|apply aiA
   all_goals try exact clz
   refine hK _ _ (i+1,.emp (qx (some O1)+2),O2,O3) ⟨hi,rfl,i3,i4⟩ (by simp only;omega) (Wk.temps ?_)
   (simp only [zz,apC,go_sem,qk,qh,qg,qj];try (repeat' first|(with_reducible apply aiA)|(apply qe;omega)|(apply qa;rfl)|exact ql))
  have k2:((0:Int)<i)=True:=eq_true (by omega)
  have hm:((i:Int)-1)=((i-1:Nat):Int):=by omega
  have m1:(((i-1:Nat):Int)<L.length)=True:=eq_true (by omega)
  have m0:(0≤((i-1:Nat):Int))=True:=eq_true (by omega)
  have hlti:=hlti h0 hi
  obtain ⟨f,hf⟩: ∃f,f=L.getD (i-1) default:=⟨_,rfl⟩
  have ef:=hf.symm
  rw [ef]at hlti
  have eCf:enC f= [.int .i64 f.layer,.int .i64 f.frm,.int .i64 f.to,.bool f.pos,strs f.sup,zX f.vars]:=rfl
  have hcm:=qwQ hlti
  have c66:=fun H hk hk2=>qAw [f.frm,f.to,f.layer] [e.frm,e.to,e.layer] (h.length+2) (qx (some O2)+1) (h.length+3) (qx (some O3)+1) H 3 3 rfl rfl hk hk2 rfl (by simp)
  rw [hcm]at c66
  have kc:((0:Int)≤ -1)=False:=eq_false (by decide)
  refine qfI ?T2 ?H2 ?h3 ?h4
  case h3=>
   simp (disch:=omega) only [apC,k0,k1,k2,hm,m0,m1,ef,eCf,i3',i4',zz,Int.toNat_natCast,go_sem]
   repeat' first
    |((first|apply qd|apply qb);exact rvk;simp only [go_sem];first|exact ql|apply qe|apply qa|apply qf|skip)
    |with_reducible first|intro _|apply aiA
   all_goals try exact clz
   refine cG (fun _=>c66 _ ?ka ?kb) (fun _=>by exact flk) ?_
   case ka=>simp only [go_sem];rfl
   case kb=>simp only [go_sem];rfl
   simp (disch:=omega) only [kc,go_sem]
   repeat' first
    |((first|apply qd|apply qb);exact rvk;simp only [go_sem];first|exact ql|apply qe|apply qa|apply qf|skip)
    |with_reducible first|intro _|apply aiA
   all_goals first
    |omega
    |rfl
    |(simp<;>fail)
  case h4=>
  simp (disch:=omega) only [go_sem]
  repeat' first
   |((first|apply qd|apply qb);exact rvk;simp only [go_sem];first|exact ql|apply qe|apply qa|apply qf|skip)
   |with_reducible first|intro _|apply aiA
  all_goals try exact clz
  refine hK _ _ (i+1,.emp (qx (some O1)+2),.mem (qx (some O2)+1) 3 [.int .i64 f.frm,.int .i64 f.to,.int .i64 f.layer],.mem (qx (some O3)+1) 3 [.int .i64 e.frm,.int .i64 e.to,.int .i64 e.layer]) ⟨hi,rfl,rfl,rfl⟩ (by simp only;omega) (Wk.temps ?_)
  (simp only [zz,apC,go_sem,qk,qh,qg,qj];try (repeat' first|(with_reducible apply aiA)|(apply qe;omega)|(apply qa;rfl)|exact ql))
end RC
end
section
open Go Go.Proofs AF HY Go.ChangeShapes Go.RowKit
namespace LN
theorem qA0 : Tryz.prog.globalNamed "internal/strconv.uint64pow10" = some 1 := by kernel_rfl
theorem qA2 : Tryz.prog.globalNamed "strconv.ErrSyntax" = some 6 := by kernel_rfl
theorem qA1 : Tryz.prog.globalNamed "strconv.ErrRange" = some 7 := by kernel_rfl
theorem qpv {w w':World} (h:qqD w) (e:w'.heap[1]? =w.heap[1]?):qqD w':=by
 unfold qqD Lib.TabIs at*
 rw [qd9 qA0 e]
 exact h
theorem qhh : "*" ++ "errors.errorString" = "*errors.errorString" := by decide
theorem qrw (u : TypeId) (h : Tryz.prog.typeName? 3 u = some "*errors.errorString") : u = 323 :=
 typeName_ptr_named (nm := "errors.errorString") (by rw [qhh]; kernel_rfl) (by kernel_rfl) (by decide) u (by rw [qhh]; exact h)
def qd2:List Nat:= [1,6,7]
def qz8 (w:World):Prop:=qqD w∧qvx w
theorem qzr {W:World} (h:laidMet Tryz.prog YtgoandblgcjleaaGreatDoor.Rows.apparatusSpansRow.laid W):qqD W∧qvx W:=by
 have h2:=laidMet.tail (laidMet.tail h)
 have h3:=laidMet.tail (laidMet.tail h2)
 have h4:=laidMet.tail h3
 obtain ⟨a,s,e1,_⟩:=laid_sentinel (g:=7) (ti:=192) (tp:=323) (te:=325) (ts:=9) h3 qA1 (by kernel_rfl) Tryz.underlying192 qrw Tryz.underlying323 Tryz.underlying325 rfl rfl Tryz.underlying9 (by kernel_rfl) (by kernel_rfl)
 obtain ⟨b,t,e2,_⟩:=laid_sentinel (g:=6) (ti:=192) (tp:=323) (te:=325) (ts:=9) h4 qA2 (by kernel_rfl) Tryz.underlying192 qrw Tryz.underlying323 Tryz.underlying325 rfl rfl Tryz.underlying9 (by kernel_rfl) (by kernel_rfl)
 exact ⟨Lib.tabIs_of_head (t:=288) (e:=164) (n:=20) qA0 (by kernel_rfl) Tryz.underlying288 Tryz.underlying164 (by kernel_rfl) (by kernel_rfl) h2,⟨_,_,e2⟩,_,_,e1⟩
theorem qpX {W:World} (h:laidMet Tryz.prog YtgoandblgcjleaaGreatDoor.Rows.apparatusSpansRow.laid W): ∀b,b∈qd2→ ∃arr T fz,W.heap[b]? =some (.cells arr T fz):=by
 intro b hb
 obtain ⟨h1,⟨_,_,h2⟩,_,_,h3⟩:=qzr h
 have e:b=1∨b=6∨b=7:=by simpa [qd2] using hb
 rcases e with rfl|rfl|rfl
 ·exact qcU qA0 h1
 ·exact qcU qA2 h2
 ·exact qcU qA1 h3
theorem quf {W:World} (h:laidMet Tryz.prog YtgoandblgcjleaaGreatDoor.Rows.apparatusSpansRow.laid W): ∀w':World,(∀b,b∈qd2→w'.heap[b]? =W.heap[b]?)→qz8 w':=by
 intro w' hs
 obtain ⟨h1,⟨t1,p1,h2⟩,t2,p2,h3⟩:=qzr h
 refine ⟨qpv h1 (hs 1 (by simp [qd2])),⟨t1,p1,?_⟩,t2,p2,?_⟩
 ·rw [qd9 qA2 (hs 6 (by simp [qd2]))];exact h2
 ·rw [qd9 qA1 (hs 7 (by simp [qd2]))];exact h3
theorem que:kY RC.SG [.pin qd2 qz8]:=⟨0,_,_,rfl,fun _ h=>h⟩
end LN
end
