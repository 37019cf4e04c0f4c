import Derived.Test.YtgoandblgcjleaaGreatDoorK14
import Derived.Test.YtgoandblgcjleaaGreatDoorK10
import Derived.Test.YtgoandblgcjleaaGreatDoorK11
import Derived.Test.YtgoandblgcjleaaGreatDoorK9
import Derived.Test.YtgoandblgcjleaaGreatDoorK8
import Derived.Test.YtgoandblgcjleaaGreatDoorK3
import Derived.Test.YtgoandblgcjleaaGreatDoorK5
import Derived.Test.YtgoandblgcjleaaGreatDoorProg
set_option linter.all false
set_option linter.unusedSimpArgs false
set_option linter.unusedVariables false
set_option linter.unusedSectionVars false
set_option maxHeartbeats 128000000
set_option maxRecDepth 100000
section
open Go Go.Proofs AF HY LN
namespace RC
structure ES where
 i:Nat
 v:Nat
 O6:AObj
 O7:AObj
 O8:AObj
 O9:AObj
 e10:Nat
 O11:AObj
 O12:AObj
 O13:AObj
 e14:Nat
 O15:AObj
theorem qhC (L:List Va) (n:Nat): ∀c∈qdS L,lowV n c=true:=by
 intro c hc
 unfold qdS at hc
 obtain ⟨x,_,hx⟩:=List.mem_flatMap.1 hc
 simp only [vaC,List.mem_cons,List.not_mem_nil,or_false]at hx
 rcases hx with rfl|rfl<;>rfl
theorem qlc (a:Ap) (k y:Nat):(enU a k++enY a k y).length≤k*a.lay.length+y:=by
 have h1: ∀k n,(enY a k n).length≤n:=by
  intro k n
  induction n with
  |zero=>exact Nat.le_refl _
  |succ n ih=>
   show (enY a k n++if vrK a k n= [] then [] else [enK a k n]).length≤_
   rw [List.length_append]
   split
   ·simp only [List.length_nil];omega
   ·simp only [List.length_cons,List.length_nil];omega
 have h2: ∀n,(enU a n).length≤n*a.lay.length:=by
  intro n
  induction n with
  |zero=>exact Nat.zero_le _
  |succ n ih=>
   show (enU a n++enY a n a.lay.length).length≤_
   rw [List.length_append,Nat.add_mul,Nat.one_mul]
   have:=h1 n a.lay.length
   omega
 rw [List.length_append]
 have:=h1 k y
 have:=h2 k
 omega
structure EY where
 y:Nat
 v:Nat
 O11:AObj
 O12:AObj
 O13:AObj
 e14:Nat
 O15:AObj
theorem qCC (a:Ap) (h:List AObj) (hz:qsc a) (hp:qba SG h):
  ACalls Tryz.prog 96 [.agg (coC a.x),qz a.l,zr a.cls,qK a.b,qE a.gs,strs a.lay,zy a.pos] h (.tup [qan (enR a),.int .i64 (enE a)]) h:=by
 have hsz:=qrN hz.g42
 have z1:=hz.l12
 have z2:=hz.b14
 have z3:=hz.y18
 have z4:=hz.p20
 have z5:=hz.c12
 have c38:=fun l'=>pvP a.x a.l a.b (h++l') hz.co hz.un (by omega) (fun i=>by have:=hz.bt i;omega) (hp.app l')
 have c122:=fun h=>sgP a.x.sig a.gs h hsz
 have c27:=fun h=>lyP a.lay [] h (by omega) (fun i=>by have:=hz.yl i;omega)
 have nl0:VLe AV.nl (qan []):=kM
 obtain ⟨R,hR⟩: ∃R,R=enR a:=⟨_,rfl⟩
 obtain ⟨E,hE⟩: ∃E,E=enE a:=⟨_,rfl⟩
 rw [←hR,←hE]
 unfold enR at hR
 rw [←hE]at hR
 unfold enE at hE
 unfold coC qz qK strs at c38
 unfold strs at c122 c27
 by_cases g1:pvE a.x a.l a.b=0
 case neg=>
  have k1:(pvE a.x a.l a.b=0)=False:=eq_false g1
  rw [if_pos g1]at hE
  rw [hE,if_neg g1]at hR
  rw [hR,hE]
  refine acO qih ?_
  simp (disch:=omega) only [qsO,coC,qz,zr,strs,zy,qK,k1,go_sem]
  repeat' first
   |((first|refine cA (c38 _) ?_ ?_|refine cG (fun e=>c38 _) ?_ ?_|refine cU (fun _=>c38 _) ?_ ?_);exact flk;simp (disch:=omega) only [coC,qz,zr,strs,zy,qK,k1,go_sem])
   |((first|apply qd|apply qb);exact rvk;simp only [go_sem];first|exact ql|apply qe|apply qa|apply qf|skip)
   |with_reducible first|apply aiA|intro _
  all_goals try exact clz
  exact jo ⟨nl0,ql,trivial⟩
 rw [if_neg (fun hc=>hc g1)]at hE
 rw [g1]at c38
 by_cases g2:sgE a.x.sig a.gs=0
 case neg=>
  have k2:(sgE a.x.sig a.gs=0)=False:=eq_false g2
  rw [if_pos g2]at hE
  rw [hE,if_neg (by decide)]at hR
  rw [hR,hE]
  refine acO qih ?_
  simp (disch:=omega) only [qsO,coC,qz,zr,strs,zy,qK,k2,go_sem]
  repeat' first
   |((first|refine cA (c38 _) ?_ ?_|refine cG (fun e=>c38 _) ?_ ?_|refine cA (c122 _) ?_ ?_|refine cG (fun e=>c122 _) ?_ ?_|refine cU (fun _=>c38 _) ?_ ?_|refine cU (fun _=>c122 _) ?_ ?_);exact flk;simp (disch:=omega) only [coC,qz,zr,strs,zy,qK,k2,go_sem])
   |((first|apply qd|apply qb);exact rvk;simp only [go_sem];first|exact ql|apply qe|apply qa|apply qf|skip)
   |with_reducible first|apply aiA|intro _
  all_goals try exact clz
  exact jo ⟨nl0,ql,trivial⟩
 rw [if_neg (fun hc=>hc g2)]at hE
 rw [g2]at c122
 by_cases g3:lyE a.lay=0
 case neg=>
  have k3:(lyE a.lay=0)=False:=eq_false g3
  rw [if_pos g3]at hE
  rw [hE,if_neg g3]at hR
  rw [hR,hE]
  refine acO qih ?_
  simp (disch:=omega) only [qsO,coC,qz,zr,strs,zy,qK,k3,go_sem]
  repeat' first
   |((first|refine cA (c38 _) ?_ ?_|refine cG (fun e=>c38 _) ?_ ?_|refine cA (c122 _) ?_ ?_|refine cG (fun e=>c122 _) ?_ ?_|refine cA (c27 _) ?_ ?_|refine cG (fun e=>c27 _) ?_ ?_|refine cU (fun _=>c38 _) ?_ ?_|refine cU (fun _=>c122 _) ?_ ?_|refine cU (fun _=>c27 _) ?_ ?_);exact flk;simp (disch:=omega) only [coC,qz,zr,strs,zy,qK,k3,go_sem])
   |((first|apply qd|apply qb);exact rvk;simp only [go_sem];first|exact ql|apply qe|apply qa|apply qf|skip)
   |with_reducible first|apply aiA|intro _
  all_goals try exact clz
  exact jo ⟨nl0,ql,trivial⟩
 rw [if_neg (fun hc=>hc g3)]at hE
 rw [g3]at c27
 by_cases g4:a.pos.length=a.lay.length
 case neg=>
  have k4:((a.pos.length:Int)=a.lay.length)=False:=eq_false (by omega)
  rw [if_pos (.inl g4)]at hE
  rw [hE,if_neg (by decide)]at hR
  rw [hR,hE]
  refine acO qih ?_
  simp (disch:=omega) only [qsO,coC,qz,zr,strs,zy,qK,k4,go_sem]
  repeat' first
   |((first|refine cA (c38 _) ?_ ?_|refine cG (fun e=>c38 _) ?_ ?_|refine cA (c122 _) ?_ ?_|refine cG (fun e=>c122 _) ?_ ?_|refine cA (c27 _) ?_ ?_|refine cG (fun e=>c27 _) ?_ ?_|refine cU (fun _=>c38 _) ?_ ?_|refine cU (fun _=>c122 _) ?_ ?_|refine cU (fun _=>c27 _) ?_ ?_);exact flk;simp (disch:=omega) only [coC,qz,zr,strs,zy,qK,k4,go_sem])
   |((first|apply qd|apply qb);exact rvk;simp only [go_sem];first|exact ql|apply qe|apply qa|apply qf|skip)
   |with_reducible first|apply aiA|intro _
  all_goals try exact clz
  exact jo ⟨nl0,ql,trivial⟩
 have k4:((a.pos.length:Int)=a.lay.length)=True:=eq_true (by omega)
 by_cases g5:a.cls.length=a.l.length
 case neg=>
  have k5:((a.cls.length:Int)=a.l.length)=False:=eq_false (by omega)
  rw [if_pos (.inr g5)]at hE
  rw [hE,if_neg (by decide)]at hR
  rw [hR,hE]
  refine acO qih ?_
  simp (disch:=omega) only [qsO,coC,qz,zr,strs,zy,qK,k4,k5,go_sem]
  repeat' first
   |((first|refine cA (c38 _) ?_ ?_|refine cG (fun e=>c38 _) ?_ ?_|refine cA (c122 _) ?_ ?_|refine cG (fun e=>c122 _) ?_ ?_|refine cA (c27 _) ?_ ?_|refine cG (fun e=>c27 _) ?_ ?_|refine cU (fun _=>c38 _) ?_ ?_|refine cU (fun _=>c122 _) ?_ ?_|refine cU (fun _=>c27 _) ?_ ?_);exact flk;simp (disch:=omega) only [coC,qz,zr,strs,zy,qK,k4,k5,go_sem])
   |((first|apply qd|apply qb);exact rvk;simp only [go_sem];first|exact ql|apply qe|apply qa|apply qf|skip)
   |with_reducible first|apply aiA|intro _
  all_goals try exact clz
  exact jo ⟨nl0,ql,trivial⟩
 have k5:((a.cls.length:Int)=a.l.length)=True:=eq_true (by omega)
 rw [if_neg (by rintro (h|h)<;>contradiction)]at hE
 refine acO qih ?_
 simp (disch:=omega) only [qsO,coC,qz,zr,strs,zy,qK,k4,k5,go_sem]
 repeat' first
  |((first|refine cA (c38 _) ?_ ?_|refine cG (fun e=>c38 _) ?_ ?_|refine cA (c122 _) ?_ ?_|refine cG (fun e=>c122 _) ?_ ?_|refine cA (c27 _) ?_ ?_|refine cG (fun e=>c27 _) ?_ ?_|refine cU (fun _=>c38 _) ?_ ?_|refine cU (fun _=>c122 _) ?_ ?_|refine cU (fun _=>c27 _) ?_ ?_);exact flk;simp (disch:=omega) only [coC,qz,zr,strs,zy,qK,k4,k5,go_sem])
  |((first|apply qd|apply qb);exact rvk;simp only [go_sem];first|exact ql|apply qe|apply qa|apply qf|skip)
  |with_reducible first|apply aiA|intro _
 all_goals try exact clz
 have vv:(∀j,j<a.l.length→(a.cls.getD j []).length=(a.l.getD j default).rds.length)→E=0:=fun hx=>by
  rw [hE,qp.2 (fun j hj=>by rw [decide_eq_true (hx j hj)];rfl),if_neg (by simp)]
 refine qt (T:=fun i:Nat×AObj=>qT 200 [(1,qz a.l),(2,zr a.cls),(3,qK a.b),(5,strs a.lay),(6,zy a.pos),(7,.op h.length 1 0),(11,.op (h.length+1) 1 0),(14,.op (h.length+2) 1 0),(15,.op (h.length+3) 1 0),(69,qz a.l),(70,.int .i64 a.l.length),(71,.int .i64 i.1)])
  (H:=fun i=>h++ [.mem 1 26 (coC a.x),.mem 1 44 [qE a.gs],.mem 1 49 [.nl],.mem 1 35 [.int .i64 0],i.2,.emp 0,.emp 0,.emp 0,.emp 0,.emp 0,.emp 0,.emp 0,.emp 0,.emp 0,.emp 0,.emp 0,.emp 0])
  (inv:=fun i=>i.1≤a.l.length∧qI [i.2] 0=true∧ ∀j,j<i.1→(a.cls.getD j []).length=(a.l.getD j default).rds.length) (m:=fun i=>a.l.length-i.1) (0,.emp 0) ⟨Nat.zero_le _,rfl,fun j hj=>absurd hj (Nat.not_lt_zero j)⟩ (Wk.temps ?_) ?_
 ·(simp only [qz,zr,qK,strs,zy,go_sem,qk,qh,qg,qj];try (repeat' first|(with_reducible apply aiA)|(apply qe;omega)|(apply qa;rfl)|exact ql))
 rintro ⟨i,O4⟩ ⟨i1,i2,i3⟩ K hK
 simp only at i1 i2 i3 hK
 have i2': ∀m,qI (O4::m) 0=true:=fun _=>i2
 by_cases hi:i<a.l.length
 ·have k6:((i:Int)<a.l.length)=True:=eq_true (by omega)
  have k7:((i:Int)<a.cls.length)=True:=eq_true (by omega)
  have hbad: ¬(a.cls.getD i []).length=(a.l.getD i default).rds.length→E=9:=fun hx=>by
   rw [hE,qG.2 ⟨i,hi,by rw [decide_eq_false hx];rfl⟩,if_pos rfl]
  have hS:(a.cls.getD i []).length=(a.l.getD i default).rds.length→ ∀j,j<i+1→(a.cls.getD j []).length=(a.l.getD j default).rds.length:=fun hx j hj=>by
   by_cases e:j=i
   ·subst e;exact hx
   ·exact i3 j (by omega)
  obtain ⟨u,hu⟩: ∃u,u=a.l.getD i default:=⟨_,rfl⟩
  have eu:=hu.symm
  obtain ⟨c,hc⟩: ∃c,c=a.cls.getD i []:=⟨_,rfl⟩
  have ec:=hc.symm
  rw [eu,ec]at hbad hS
  by_cases g6:c.length=u.rds.length
  ·have k8:((c.length:Int)=u.rds.length)=True:=eq_true (by omega)
   simp (disch:=omega) only [qz,zr,strs,unC,zD,k6,k7,k8,eu,ec,i2',go_sem]
   repeat' first
    |((first|apply qd|apply qb);exact rvk;simp only [go_sem];first|exact ql|apply qe|apply qa|apply qf|skip)
    |with_reducible first|apply aiA|intro _
   all_goals try exact clz
   refine hK _ _ (i+1,.mem (qu (some O4)+1) 83 (unC u)) ⟨hi,rfl,hS g6⟩ (by simp only;omega) (Wk.temps ?_)
   (simp only [qz,zr,qK,strs,zy,go_sem,qk,qh,qg,qj];try (repeat' first|(with_reducible apply aiA)|(apply qe;omega)|(apply qa;rfl)|exact ql))
  ·have k8:((c.length:Int)=u.rds.length)=False:=eq_false (by omega)
   have hE9:=hbad g6
   rw [hE9,if_neg (by decide)]at hR
   rw [hR,hE9]
   simp (disch:=omega) only [qz,zr,strs,unC,zD,k6,k7,k8,eu,ec,i2',go_sem]
   repeat' first
    |((first|apply qd|apply qb);exact rvk;simp only [go_sem];first|exact ql|apply qe|apply qa|apply qf|skip)
    |with_reducible first|apply aiA|intro _
   all_goals try exact clz
   exact jo ⟨nl0,ql,trivial⟩
 have k6:((i:Int)<a.l.length)=False:=eq_false (by omega)
 have hE0:E=0:=vv fun j hj=>i3 j (by omega)
 have hcl: ∀j,j<a.l.length→(a.cls.getD j []).length=(a.l.getD j default).rds.length:=fun j hj=>i3 j (by omega)
 rw [hE0,if_pos rfl]at hR
 rw [hR,hE0]
 clear hK hE hE0 vv hR i3
 have hok:=qr4 g1
 simp (disch:=omega) only [qz,k6,go_sem]
 repeat' first
  |((first|apply qd|apply qb);exact rvk;simp only [go_sem];first|exact ql|apply qe|apply qa|apply qf|skip)
  |with_reducible first|apply aiA|intro _
 all_goals try exact clz
 refine qt (T:=fun s:ES=>qT 200 [(2,zr a.cls),(3,qK a.b),(5,strs a.lay),(6,zy a.pos),(7,.op h.length 1 0),(11,.op (h.length+1) 1 0),(14,.op (h.length+2) 1 0),(15,.op (h.length+3) 1 0),(21,.osl (h.length+5) s.v 6 0 (enU a s.i).length),(86,qz a.l),(87,.int .i64 a.l.length),(88,.int .i64 s.i)])
  (H:=fun s=>h++ [.mem 1 26 (coC a.x),.mem 1 44 [qE a.gs],.mem 1 49 [.nl],.mem 1 35 [.int .i64 0],O4,zZ s.v 58 (qbC (enU a s.i)),s.O6,s.O7,s.O8,s.O9,.emp s.e10,s.O11,s.O12,s.O13,.emp s.e14,s.O15,.emp 0])
  (inv:=fun s=>s.i≤a.l.length∧qI [s.O6] 0=true∧qI [s.O7] 0=true∧qI [s.O8] 0=true∧qI [s.O9] 0=true∧qI [s.O11] 0=true∧qI [s.O12] 0=true∧qI [s.O13] 0=true∧qI [s.O15] 0=true) (m:=fun s=>a.l.length-s.i) ⟨0,1,.emp 0,.emp 0,.emp 0,.emp 0,0,.emp 0,.emp 0,.emp 0,0,.emp 0⟩ ⟨Nat.zero_le _,rfl,rfl,rfl,rfl,rfl,rfl,rfl,rfl⟩ (Wk.temps ?_) ?_
 ·(simp only [qz,zr,qK,strs,zy,enU,List.length_nil,go_sem,qk,qh,qg,qj];try (repeat' first|(with_reducible apply aiA)|(apply qe;omega)|(apply qa;rfl)|exact ql))
 rintro ⟨k,v,O6,O7,O8,O9,e10,O11,O12,O13,e14,O15⟩ ⟨s1,p6,p7,p8,p9,p11,p12,p13,p15⟩ K hK
 simp only at s1 p6 p7 p8 p9 p11 p12 p13 p15 hK
 have p6': ∀m,qI (O6::m) 0=true:=fun _=>p6
 have p7': ∀m,qI (O7::m) 0=true:=fun _=>p7
 have p8': ∀m,qI (O8::m) 0=true:=fun _=>p8
 have p9': ∀m,qI (O9::m) 0=true:=fun _=>p9
 have p11': ∀m,qI (O11::m) 0=true:=fun _=>p11
 have p12': ∀m,qI (O12::m) 0=true:=fun _=>p12
 have p13': ∀m,qI (O13::m) 0=true:=fun _=>p13
 have p15': ∀m,qI (O15::m) 0=true:=fun _=>p15
 by_cases hk:k<a.l.length
 case neg=>
  have k7:((k:Int)<a.l.length)=False:=eq_false (by omega)
  obtain rfl:k=a.l.length:=by omega
  simp (disch:=omega) only [qz,k7,go_sem]
  repeat' first
   |((first|apply qd|apply qb);exact rvk;simp only [go_sem];first|exact ql|apply qe|apply qa|apply qf|skip)
   |with_reducible first|apply aiA|intro _
  all_goals try exact clz
  exact jo ⟨qm3 rfl,ql,trivial⟩
 have k7:((k:Int)<a.l.length)=True:=eq_true (by omega)
 have k8:((k:Int)<a.cls.length)=True:=eq_true (by omega)
 have hcu:=hcl k hk
 obtain ⟨e1,e2⟩:=spK hok hk
 obtain ⟨f1,f2,_,_⟩:=qaw hok hk
 have hown:=qmn hok hk
 have c160:=fun h=>qB0 a.b (k:Int) (a.l.getD k default) h (by omega)
 rw [e1,e2]at c160
 obtain ⟨u,hu⟩: ∃u,u=a.l.getD k default:=⟨_,rfl⟩
 have eu:=hu.symm
 obtain ⟨F,hF⟩: ∃F,F=frK a k:=⟨_,rfl⟩
 obtain ⟨G,hG⟩: ∃G,G=toK a k:=⟨_,rfl⟩
 rw [←hF,←hG]at hown f1
 rw [←hG]at f2
 simp only [←hF,←hG,eu]at c160
 unfold qK unC at c160
 have q1:((F:Int)≤G)=True:=eq_true (by omega)
 have q2:((G:Int)≤a.b.length)=True:=eq_true (by omega)
 have q3:(0≤(F:Int))=True:=eq_true (by omega)
 simp (disch:=omega) only [qz,qK,unC,wdC,k7,eu,q1,q2,q3,p6',p7',go_sem]
 repeat' first
  |((first|refine cA (c160 _) ?_ ?_|refine cG (fun e=>c160 _) ?_ ?_|refine cU (fun _=>c160 _) ?_ ?_);exact flk;simp (disch:=omega) only [qz,qK,unC,wdC,k7,eu,q1,q2,q3,p6',p7',Int.toNat_natCast,go_sem])
  |((first|apply qd|apply qb);exact rvk;simp only [go_sem];first|exact ql|apply qe|apply qa|apply qf|skip)
  |with_reducible first|apply aiA|intro _
 all_goals try exact clz
 obtain ⟨v6,hv6⟩: ∃v6,v6=qu (some O6)+1:=⟨_,rfl⟩
 obtain ⟨v7,hv7⟩: ∃v7,v7=qu (some O7)+1:=⟨_,rfl⟩
 simp only [←hv6,←hv7]
 have t0:qco (qfK a.b) F (F+0)= []:=by unfold qco;simp
 have tl:(qfK a.b).length=a.b.length:=by unfold qfK;simp
 refine qt (T:=fun s:Nat×Nat×AObj×AObj=>qT 200 [(2,zr a.cls),(3,qK a.b),(5,strs a.lay),(6,zy a.pos),(7,.op h.length 1 0),(11,.op (h.length+1) 1 0),(14,.op (h.length+2) 1 0),(15,.op (h.length+3) 1 0),(22,.int .i64 (k:Int)),(23,.op (h.length+6) v6 0),(24,.int .i64 (F:Int)),(25,.int .i64 (G:Int)),(26,.op (h.length+7) v7 0),(86,qz a.l),(87,.int .i64 a.l.length),(88,.int .i64 (k:Int)),(21,.osl (h.length+5) v 6 0 (enU a k).length),(103,.sl (G-F) fun j=>wdC (a.b.getD (F+j) default)),(104,.int .i64 ((G-F:Nat):Int)),(105,.int .i64 s.1)])
  (H:=fun s=>h++ [.mem 1 26 (coC a.x),.mem 1 44 [qE a.gs],.mem 1 49 [.nl],.mem 1 35 [.int .i64 0],O4,zZ v 58 (qbC (enU a k)),.mem v6 83 (unC u),.mem v7 22 [.osl (h.length+10) s.2.1 1 0 s.1],s.2.2.1,s.2.2.2,zZ s.2.1 9 (jv (qco (qfK a.b) F (F+s.1))),O11,O12,O13,.emp e14,O15,.emp 0])
  (inv:=fun s=>s.1≤G-F∧qI [s.2.2.1] 0=true∧qI [s.2.2.2] 0=true) (m:=fun s=>G-F-s.1) (0,e10,O8,O9) ⟨Nat.zero_le _,p8,p9⟩
  (Wk.trans (Wk.ownNil (j:=h.length+7) (i:=0) (k:=h.length+10) (v:=v7) (ty:=22) (cs:= [.nl]) (ve:=e10) (sz:=1) ?c1 rfl ?c2) ?c3) ?c4
 case c1=>simp only [go_sem]
 case c2=>simp only [go_sem]
 case c3=>
  have eo:zZ e10 9 (jv (qco (qfK a.b) F (F+0)))= .emp e10:=by rw [t0];rfl
  have eo2:zZ e10 9 (jv (qco (qfK a.b) F F))= .emp e10:=eo
  simp only [go_sem,eo,eo2,List.set_cons_zero,unC]
  refine Wk.temps ?_
  (simp only [qz,zr,qK,wdC,strs,zy,unC,go_sem,qk,qh,qg,qj];try (repeat' first|(with_reducible apply aiA)|(apply qe;omega)|(apply qa;rfl)|exact ql))
 case c4=>
 rintro ⟨j,w,O8,O9⟩ ⟨j1,p8,p9⟩ K2 hK2
 simp only at j1 p8 p9 hK2
 have p8': ∀m,qI (O8::m) 0=true:=fun _=>p8
 have p9': ∀m,qI (O9::m) 0=true:=fun _=>p9
 have hsl:=qeu (t:=qfK a.b) (f:=F) (g:=F+j) (by omega) (by omega)
 by_cases hj:j<G-F
 ·have r1:((j:Int)<((G-F:Nat):Int))=True:=eq_true (by omega)
  have hsn:=qnB (t:=qfK a.b) (f:=F) (d:=j) (by omega)
  have htx:(qfK a.b).getD (F+j) []=(a.b.getD (F+j) default).text:=by
   unfold qfK
   rw [gdqA,List.getElem?_map,gdqA,qZ (show F+j<a.b.length by omega)]
   rfl
  obtain ⟨wd,hwd⟩: ∃wd,wd=a.b.getD (F+j) default:=⟨_,rfl⟩
  have ewd:=hwd.symm
  rw [htx,ewd]at hsn
  obtain ⟨S,hS⟩: ∃S,S=qco (qfK a.b) F (F+j):=⟨_,rfl⟩
  have eS:=hS.symm
  rw [eS]at hsn hsl
  have hsl:S.length=j:=by omega
  have eC:=jT S
  have eTk:List.take j (jv S)=jv S:=List.take_of_length_le (by omega)
  rw [hsl]at eC
  simp (disch:=omega) only [wdC,r1,ewd,eS,p8',p9',eC,eTk,Nat.mul_one,go_sem]
  repeat' first
   |((first|apply qd|apply qb);exact rvk;simp only [go_sem];first|exact ql|apply qe|apply qa|apply qf|skip)
   |with_reducible first|apply aiA|intro _
  all_goals try exact clz
  have eA:jv S++ [AV.str wd.text]=jv (qco (qfK a.b) F (F+(j+1))):=by rw [hsn,qcB];rfl
  try rw [eA]
  refine hK2 _ _ (j+1,w+1,.mem (qu (some O8)+1) 64 (wdC wd),.mem (qu (some O9)+1) 9 [.str wd.text]) ⟨hj,rfl,rfl⟩ (by simp only;omega) ?_
  simp only [wdC]
  refine Wk.temps ?_
  (simp only [qz,zr,qK,wdC,strs,zy,unC,go_sem,qk,qh,qg,qj];try (repeat' first|(with_reducible apply aiA)|(apply qe;omega)|(apply qa;rfl)|exact ql))
 ·have r1:((j:Int)<((G-F:Nat):Int))=False:=eq_false (by omega)
  obtain rfl:j=G-F:=by omega
  have hG2:F+(G-F)=G:=by omega
  rw [hG2,←hown]
  rw [hG2,←hown]at hsl
  clear hK2
  simp (disch:=omega) only [strs,r1,go_sem]
  repeat' first
   |((first|apply qd|apply qb);exact rvk;simp only [go_sem];first|exact ql|apply qe|apply qa|apply qf|skip)
   |with_reducible first|apply aiA|intro _
  all_goals try exact clz
  obtain ⟨W,hW⟩: ∃W,W=qeC a k:=⟨_,rfl⟩
  have eW:=hW.symm
  rw [eW]at hsl ⊢
  have hWl:W.length=G-F:=by omega
  have hWb:W.length≤1000000000:=by omega
  have hy0:enU a k++enY a k 0=enU a k:=by show enU a k++ []=_;simp
  refine qt (T:=fun s:EY=>qT 200 [(2,zr a.cls),(3,qK a.b),(5,strs a.lay),(6,zy a.pos),(7,.op h.length 1 0),(11,.op (h.length+1) 1 0),(14,.op (h.length+2) 1 0),(15,.op (h.length+3) 1 0),(22,.int .i64 (k:Int)),(23,.op (h.length+6) v6 0),(24,.int .i64 (F:Int)),(25,.int .i64 (G:Int)),(26,.op (h.length+7) v7 0),(86,qz a.l),(87,.int .i64 a.l.length),(88,.int .i64 (k:Int)),(21,.osl (h.length+5) s.v 6 0 (enU a k++enY a k s.y).length),(116,.int .i64 a.lay.length),(117,.int .i64 s.y)])
   (H:=fun s=>h++ [.mem 1 26 (coC a.x),.mem 1 44 [qE a.gs],.mem 1 49 [.nl],.mem 1 35 [.int .i64 0],O4,zZ s.v 58 (qbC (enU a k++enY a k s.y)),.mem v6 83 (unC u),.mem v7 22 [strs W],O8,O9,.emp (w+1),s.O11,s.O12,s.O13,.emp s.e14,s.O15,.emp 0])
   (inv:=fun s=>s.y≤a.lay.length∧qI [s.O11] 0=true∧qI [s.O12] 0=true∧qI [s.O13] 0=true∧qI [s.O15] 0=true) (m:=fun s=>a.lay.length-s.y) ⟨0,v,O11,O12,O13,e14,O15⟩ ⟨Nat.zero_le _,p11,p12,p13,p15⟩
   (Wk.trans (Wk.fzCell (j:=h.length+7) (k:=h.length+10) (i:=0) (v:=v7) (ty:=22) (cs:= [.osl (h.length+10) w 1 0 (G-F)]) (c:= .osl (h.length+10) w 1 0 (G-F)) (c':=strs W) ?d1 rfl ?d2 (by omega) ?d3) ?d4) ?d5
  case d1=>simp only [go_sem]
  case d2=>simp only [go_sem]
  case d3=>
   rw [qct,getO_app]
   exact qcA (fun _=>rfl) hWl.symm
  case d4=>
   simp only [go_sem,hy0,List.set_cons_zero,unC]
   refine Wk.temps ?_
   (simp only [qz,zr,qK,wdC,strs,zy,unC,go_sem,qk,qh,qg,qj];try (repeat' first|(with_reducible apply aiA)|(apply qe;omega)|(apply qa;rfl)|exact ql))
  case d5=>
  rintro ⟨y,v,O11,O12,O13,e14,O15⟩ ⟨y1,p11,p12,p13,p15⟩ K3 hK3
  simp only at y1 p11 p12 p13 p15 hK3
  have p11': ∀m,qI (O11::m) 0=true:=fun _=>p11
  have p12': ∀m,qI (O12::m) 0=true:=fun _=>p12
  have p13': ∀m,qI (O13::m) 0=true:=fun _=>p13
  have p15': ∀m,qI (O15::m) 0=true:=fun _=>p15
  have hys:enY a k (y+1)=enY a k y++if vrK a k y= [] then [] else [enK a k y]:=rfl
  by_cases hy:y<a.lay.length
  case neg=>
   have r2:((y:Int)<a.lay.length)=False:=eq_false (by omega)
   obtain rfl:y=a.lay.length:=by omega
   have hus:enU a k++enY a k a.lay.length=enU a (k+1):=rfl
   rw [hus]
   simp (disch:=omega) only [strs,r2,go_sem]
   repeat' first
    |((first|apply qd|apply qb);exact rvk;simp only [go_sem];first|exact ql|apply qe|apply qa|apply qf|skip)
    |with_reducible first|apply aiA|intro _
   all_goals try exact clz
   refine hK _ _ ⟨k+1,v,.mem v6 83 (unC u),.mem v7 22 [strs W],O8,O9,w+1,O11,O12,O13,e14,O15⟩ ⟨hk,rfl,rfl,p8,p9,p11,p12,p13,p15⟩ (by simp only;omega) ?_
   simp only [unC]
   refine Wk.temps ?_
   (simp only [qz,zr,qK,wdC,strs,zy,unC,go_sem,qk,qh,qg,qj];try (repeat' first|(with_reducible apply aiA)|(apply qe;omega)|(apply qa;rfl)|exact ql))
  have r2:((y:Int)<a.lay.length)=True:=eq_true (by omega)
  have r3:((y:Int)<a.pos.length)=True:=eq_true (by omega)
  obtain ⟨pb,hpb⟩: ∃pb,pb=a.pos.getD y false:=⟨_,rfl⟩
  have epb:=hpb.symm
  obtain ⟨cl,hclx⟩: ∃cl,cl=a.cls.getD k []:=⟨_,rfl⟩
  have ecl:=hclx.symm
  simp (disch:=omega) only [strs,zy,r2,r3,epb,p11',go_sem]
  repeat' first
   |((first|apply qd|apply qb);exact rvk;simp only [go_sem];first|exact ql|apply qe|apply qa|apply qf|skip)
   |with_reducible first|apply aiA|intro _
  all_goals try exact clz
  obtain ⟨v11,hv11⟩: ∃v11,v11=qu (some O11)+1:=⟨_,rfl⟩
  simp only [←hv11]
  refine ⟨_,_,Wk.trans (Wk.cells (j:=h.length+11) (v:=v11) (ty:=58) (cs:= [.int .i64 (y:Int),.int .i64 (F:Int),.int .i64 (G:Int),.bool pb,.nl,.nl]) (cs':= [.int .i64 (y:Int),.int .i64 (F:Int),.int .i64 (G:Int),.bool pb,strs [],.nl]) ?m1 ?m2)
   (Wk.ownNil (j:=h.length+11) (i:=5) (k:=h.length+14) (v:=v11) (ty:=58) (cs:= [.int .i64 (y:Int),.int .i64 (F:Int),.int .i64 (G:Int),.bool pb,strs [],.nl]) (ve:=e14) (sz:=2) ?m3 rfl ?m4),?_⟩
  case m1=>simp only [go_sem]
  case m2=>exact ⟨ql,ql,ql,ql,kM,ql,trivial⟩
  case m3=>simp only [go_sem]
  case m4=>simp only [go_sem]
  have c161:=fun h=>qD2 u cl W a.lay (y:Int) h
  unfold unC strs at c161
  have kc:((k:Int)<a.cls.length)=True:=k8
  simp (disch:=omega) only [List.set_cons_succ,List.set_cons_zero,zr,strs,unC,k8,ecl,go_sem]
  repeat' first
   |((first|refine cA (c161 _) ?_ ?_|refine cG (fun e=>c161 _) ?_ ?_|refine cU (fun _=>c161 _) ?_ ?_);exact flk;simp (disch:=omega) only [zr,strs,k8,ecl,unC,go_sem])
   |((first|apply qd|apply qb);exact rvk;simp only [go_sem];first|exact ql|apply qe|apply qa|apply qf|skip)
   |with_reducible first|apply aiA|intro _
  all_goals try exact clz
  have hmem:u∈a.l:=by rw [hu,gdqA,qZ hk];exact List.getElem_mem hk
  have hur:=(qbZ hok.un).rg u hmem
  have hri:qfL u.rds a.x.sig.length:=by rw [hur.2.2.2];exact qho _ _ _
  have hsgl:=(qkZ hok.co).sg
  have hsr: ∀r,r<u.rds.length→(u.rds.getD r default).src.length≤32∧qgw a.x.sig a.gs (u.rds.getD r default).src=0:=fun r hr=>by
   have h1:=hri.src (u.rds.getD r default) (by rw [gdqA,qZ hr];exact List.getElem_mem hr)
   have h2:=qfQ (hi:=((a.x.sig.length:Nat):Int)) (lo:=0) h1.1 h1.2
   refine ⟨by omega,?_⟩
   unfold qgw
   rw [if_pos g2]
   exact qrV h1.1 h1.2
  have h8:=qlC hz.g42 g2
  have zrl:=hz.un.rd k
  have zwd:=hz.un.wd k
  rw [eu]at zrl
  simp only [eu]at zwd
  have zcl:cl.length=u.rds.length:=by rw [←ecl,←eu];exact hcu
  have hV:=qzX g3 k y (a.l.getD k default).rds.length
  rw [eu,ecl,eW]at hV
  obtain ⟨VL,hVL⟩: ∃VL,VL=vrK a k y:=⟨_,rfl⟩
  have hV:VL=flG (vtB u.rds cl W a.lay (y:Int)) (fun r=>(⟨(u.rds.getD r default).words,shR a.x.sig a.gs (u.rds.getD r default).src⟩:Va)) u.rds.length:=by
   rw [hVL,←hV]
   unfold vrK
   rw [eu]
  have hxl:(vtX u.rds cl W a.lay (y:Int) u.rds.length).length=VL.length:=by rw [hV];exact qll _ _ _ _
  have hVLn:VL.length≤u.rds.length:=by rw [hV];exact qxB _ _ _
  have hix:=fun i hi=>qxA (p:=vtB u.rds cl W a.lay (y:Int)) (g:=fun r=>([.agg (rdC (u.rds.getD r default))]:List AV)) (k:=fun r=>(⟨(u.rds.getD r default).words,shR a.x.sig a.gs (u.rds.getD r default).src⟩:Va)) (n:=u.rds.length) (i:=i) hi
  rw [←hV]at hix
  refine qa3 (xs:=vtX u.rds cl W a.lay (y:Int) u.rds.length) (itV u cl W a.lay (y:Int) zrl zcl zwd hWb (by omega) (fun i=>by have:=hz.yl i;omega)) ?e0
   (S:=fun i hh=> ∃w2 Q12 Q13,qI [Q12] 0=true∧qI [Q13] 0=true∧(Q12=O12∨ ∀n,lowO n Q12)∧(Q13=O13∨ ∀n,lowO n Q13)∧hh=h++ [.mem 1 26 (coC a.x),.mem 1 44 [qE a.gs],.mem 1 49 [.nl],.mem 1 35 [.int .i64 0],O4,zZ v 58 (qbC (enU a k++enY a k y)),.mem v6 83 (unC u),.mem v7 22 [strs W],O8,O9,.emp (w+1),.mem v11 58 [.int .i64 (y:Int),.int .i64 (F:Int),.int .i64 (G:Int),.bool pb,strs [],.osl (h.length+14) w2 2 0 i],Q12,Q13,zZ w2 85 (qdS (VL.take i)),O15,.emp 0])
   (E:=fun _ _=>False) ?e1 (fun _ _ h=>h.elim) ?e2 ?e3 ?e4 ?e5 (fun _ _ h=>h.elim)
  case e0=>
   intro x hx
   unfold vtX at hx
   obtain ⟨i,hi,e⟩:=List.getElem_of_mem hx
   obtain ⟨r,_,_,r3,_⟩:=hix i hi
   rw [←e,r3]
   rfl
  case e1=>
   rintro i hh ⟨w2,Q12,Q13,_,_,l12,l13,rfl⟩
   refine LowI.app rfl (fun o ho=> ?_)
   simp only [List.mem_cons,List.not_mem_nil,or_false]at ho
   have lft: ∀ {p q:Prop},p→p∨q:=fun h=> .inl h
   rcases ho with rfl|rfl|rfl|rfl|rfl|rfl|rfl|rfl|rfl|rfl|rfl|rfl|rfl|rfl|rfl|rfl|rfl
   case inr.inr.inr.inr.inr.inr.inr.inr.inr.inr.inr.inl=>
    right
    constructor<;>(intro c hc;simp only [List.mem_cons,List.not_mem_nil,or_false]at hc;rcases hc with rfl|rfl|rfl|rfl|rfl|rfl<;>simp [lowV,qea])
   case inr.inr.inr.inr.inr.inr.inr.inr.inr.inr.inr.inr.inl=>
    rcases l12 with rfl|l12
    ·left;simp only [List.mem_cons,true_or,or_true]
    ·right;exact ⟨l12 _,l12 _⟩
   case inr.inr.inr.inr.inr.inr.inr.inr.inr.inr.inr.inr.inr.inl=>
    rcases l13 with rfl|l13
    ·left;simp only [List.mem_cons,true_or,or_true]
    ·right;exact ⟨l13 _,l13 _⟩
   case inr.inr.inr.inr.inr.inr.inr.inr.inr.inr.inr.inr.inr.inr.inl=>
    right
    exact ⟨qaL (qhC _ _),qaL (qhC _ _)⟩
   all_goals
    left
    simp only [List.mem_cons,unC,strs,true_or,or_true]
  case e2=>exact ⟨e14,O12,O13,p12,p13,.inl rfl,.inl rfl,rfl⟩
  case e3=>
   have lw: ∀n,lowV n (qK a.b)=true:=fun _=>rfl
   have lu: ∀n,lowV n (qz a.l)=true:=fun _=>rfl
   have lr: ∀n,lowV n (zD u.rds)=true:=fun _=>rfl
   simp [lowV,lowV.lowVs,lw,lu,lr]
   try omega
  case e4=>
   rintro i hh tl LI TS hi ⟨w2,Q12,Q13,q12,q13,l12,l13,rfl⟩ hlen K4 K5 hK4 hN hR' hX
   obtain ⟨r,ra,rb,rc,rd4⟩:=hix i hi
   have rc':(vtX u.rds cl W a.lay (y:Int) u.rds.length)[i]= [.agg (rdC (u.rds.getD r default))]:=rc
   rw [rc']
   rw [hxl]at hi
   have q12': ∀m,qI (Q12::m) 0=true:=fun _=>q12
   have q13': ∀m,qI (Q13::m) 0=true:=fun _=>q13
   obtain ⟨sl,sE⟩:=hsr r ra
   have zw:=zwd r
   obtain ⟨rd,hrd⟩: ∃rd,rd=u.rds.getD r default:=⟨_,rfl⟩
   rw [←hrd]at rd4 sl sE zw ⊢
   have c142:=fun h=>qCM a.x.sig a.gs rd.src h hsz (by omega) (fun _=>h8)
   simp only [sE]at c142
   obtain ⟨sh,hsh⟩: ∃sh,sh=shR a.x.sig a.gs rd.src:=⟨_,rfl⟩
   rw [←hsh]at rd4
   simp only [←hsh]at c142
   have hTk:VL.take (i+1)=VL.take i++ [⟨rd.words,sh⟩]:=by rw [List.take_add_one,rd4];rfl
   have hTl:(VL.take i).length=i:=by rw [List.length_take];omega
   have eVl:=qhB (VL.take i)
   rw [hTl]at eVl
   have eVk:List.take (i*2) (qdS (VL.take i))=qdS (VL.take i):=List.take_of_length_le (by omega)
   have eVn:qdS (VL.take (i+1))=qdS (VL.take i)++ [strs rd.words,strs sh]:=by rw [hTk,qq2];rfl
   unfold strs qo at c142
   simp only [qcn]
   simp (disch:=omega) only [List.append_assoc,coC,rdC,q12',go_sem]
   refine hK4 _ _ (h++ [.mem 1 26 (coC a.x),.mem 1 44 [qE a.gs],.mem 1 49 [.nl],.mem 1 35 [.int .i64 0],O4,zZ v 58 (qbC (enU a k++enY a k y)),.mem v6 83 (unC u),.mem v7 22 [strs W],O8,O9,.emp (w+1),.mem v11 58 [.int .i64 (y:Int),.int .i64 (F:Int),.int .i64 (G:Int),.bool pb,strs [],.osl (h.length+14) w2 2 0 i],.mem (qu (some Q12)+1) 89 (rdC rd),Q13,zZ w2 85 (qdS (VL.take i)),O15,.emp 0]) (by simp [coC,rdC]) (by simp) ?_
   simp (disch:=omega) only [List.append_assoc,coC,rdC,qo,strs,q13',eVl,eVk,Nat.mul_one,go_sem]
   repeat' first
    |((first|refine cA (c142 _) ?_ ?_|refine cG (fun e=>c142 _) ?_ ?_|refine cU (fun _=>c142 _) ?_ ?_);exact flk;simp (disch:=omega) only [List.append_assoc,coC,rdC,qo,strs,q13',eVl,eVk,Nat.mul_one,go_sem])
    |((first|apply qd|apply qb);exact rvk;simp only [go_sem];first|exact ql|apply qe|apply qa|apply qf|skip)
    |with_reducible first|apply aiA|intro _
   all_goals try exact clz
   have hl1: ∀n,lowO n (.mem (qu (some Q12)+1) 89 (rdC rd)):=fun n c hc=>by
    simp only [rdC,List.mem_cons,List.not_mem_nil,or_false]at hc
    rcases hc with rfl|rfl<;>rfl
   have hl2: ∀n,lowO n (.mem (qu (some Q13)+1) 85 [strs rd.words,strs sh]):=fun n c hc=>by
    simp only [List.mem_cons,List.not_mem_nil,or_false]at hc
    rcases hc with rfl|rfl<;>rfl
   refine hN _ _ (h++ [.mem 1 26 (coC a.x),.mem 1 44 [qE a.gs],.mem 1 49 [.nl],.mem 1 35 [.int .i64 0],O4,zZ v 58 (qbC (enU a k++enY a k y)),.mem v6 83 (unC u),.mem v7 22 [strs W],O8,O9,.emp (w+1),.mem v11 58 [.int .i64 (y:Int),.int .i64 (F:Int),.int .i64 (G:Int),.bool pb,strs [],.osl (h.length+14) (w2+1) 2 0 (i+1)],.mem (qu (some Q12)+1) 89 (rdC rd),.mem (qu (some Q13)+1) 85 [strs rd.words,strs sh],zZ (w2+1) 85 (qdS (VL.take (i+1))),O15,.emp 0]) (by rw [eVn,List.append_assoc];rfl) (by simp) ⟨w2+1,_,_,rfl,rfl,.inr hl1,.inr hl2,rfl⟩
  case e5=>
   rintro hh ⟨w2,Q12,Q13,q12,q13,l12,l13,rfl⟩
   have q12': ∀m,qI (Q12::m) 0=true:=fun _=>q12
   have q13': ∀m,qI (Q13::m) 0=true:=fun _=>q13
   rw [hxl,List.take_length]
   simp (disch:=omega) only [go_sem]
   refine ⟨_,_,Wk.fzCell (j:=h.length+11) (k:=h.length+14) (i:=5) (v:=v11) (ty:=58) (cs:= [.int .i64 (y:Int),.int .i64 (F:Int),.int .i64 (G:Int),.bool pb,strs [],.osl (h.length+14) w2 2 0 VL.length]) (c:= .osl (h.length+14) w2 2 0 VL.length) (c':=qah VL) ?n1 rfl ?n2 (by omega) ?n3,?_⟩
   case n1=>simp only [go_sem]
   case n2=>simp only [go_sem]
   case n3=>
    rw [qct,getO_app]
    exact qqA rfl
   have zv: ∀g,valL g .len [qah VL]= .int .i64 VL.length:=fun _=>rfl
   have zw: ∀g,okL g .len [qah VL]=True:=fun _=>eq_true trivial
   by_cases hV0:VL.length=0
   ·have n0:((VL.length:Int)=0)=True:=eq_true (by omega)
    simp (disch:=omega) only [List.set_cons_succ,List.set_cons_zero,zv,zw,n0,go_sem]
    repeat' first
     |((first|apply qd|apply qb);exact rvk;simp only [go_sem];first|exact ql|apply qe|apply qa|apply qf|skip)
     |with_reducible first|apply aiA|intro _
    all_goals try exact clz
    have hnil:VL= []:=List.eq_nil_of_length_eq_zero hV0
    rw [←hVL,hnil,if_pos rfl,List.append_nil]at hys
    refine hK3 _ _ ⟨y+1,v,.mem v11 58 [.int .i64 (y:Int),.int .i64 (F:Int),.int .i64 (G:Int),.bool pb,strs [],qah VL],Q12,Q13,w2+1,O15⟩ ⟨hy,rfl,q12,q13,p15⟩ (by simp only;omega) ?_
    simp only [hys]
    refine Wk.temps ?_
    (simp only [qz,zr,qK,wdC,strs,zy,unC,go_sem,qk,qh,qg,qj];try (repeat' first|(with_reducible apply aiA)|(apply qe;omega)|(apply qa;rfl)|exact ql))
   have n0:((VL.length:Int)=0)=False:=eq_false (by omega)
   have hne: ¬VL= []:=fun e=>hV0 (by rw [e];rfl)
   rw [←hVL,if_neg hne]at hys
   have eBA:baK a k=qad (fun r=>decide ((u.rds.getD r default).words=W)) u.rds.length 0:=by unfold baK;rw [eu,eW]
   have hBc:=zP (fun r=>decide ((u.rds.getD r default).words=W)) u.rds.length
   have hsu:suK a k y=if pb=true∧0≤baK a k then shR a.x.sig a.gs (u.rds.getD (baK a k).toNat default).src else []:=by unfold suK;rw [epb,eu]
   have hen:enC (enK a k y)= [.int .i64 (y:Int),.int .i64 (F:Int),.int .i64 (G:Int),.bool pb,strs (suK a k y),qah VL]:=by
    unfold enK enC
    rw [epb,←hF,←hG,←hVL]
   have hMl:=qlc a k y
   obtain ⟨M,hM⟩: ∃M,M=enU a k++enY a k y:=⟨_,rfl⟩
   have hMn:enU a k++enY a k (y+1)=M++ [enK a k y]:=by rw [hys,hM,List.append_assoc]
   rw [←hM]at hMl ⊢
   have hMb:M.length≤1000:=by
    have h1:k*a.lay.length≤12*18:=Nat.mul_le_mul (by omega) z3
    omega
   have eMl:=qgZ M
   have eMk:List.take (M.length*6) (qbC M)=qbC M:=List.take_of_length_le (by omega)
   have eMn:qbC (enU a k++enY a k (y+1))=qbC M++enC (enK a k y):=by rw [hMn,qo3,qo5]
   have eMq:(enU a k++enY a k (y+1)).length=M.length+1:=by rw [hMn,List.length_append];rfl
   have c127:=fun H hk=>qBD u.rds W (h.length+7) v7 H hk (by omega) zwd hWb
   rw [←eBA]at c127 hBc
   obtain ⟨bk,hbk⟩: ∃bk,bk=baK a k:=⟨_,rfl⟩
   rw [←hbk]at hsu hBc
   simp only [←hbk]at c127
   obtain ⟨su,hsux⟩: ∃su,su=suK a k y:=⟨_,rfl⟩
   rw [←hsux]at hsu hen
   simp (disch:=omega) only [List.set_cons_succ,List.set_cons_zero,zv,zw,n0,unC,go_sem]
   repeat' first
    |((first|apply qd|apply qb);exact rvk;simp only [go_sem];first|exact ql|apply qe|apply qa|apply qf|skip)
    |with_reducible first|apply aiA|intro _
   all_goals try exact clz
   refine cA (c127 _ ?ka) (by exact flk) ?_
   case ka=>simp only [go_sem]
   cases pb with
   |false=>
    rw [if_neg (by simp)]at hsu
    rw [hsu]at hen
    simp (disch:=omega) only [zy,r3,epb,p15',eMl,eMk,Nat.mul_one,go_sem]
    repeat' first
     |((first|apply qd|apply qb);exact rvk;simp only [go_sem];first|exact ql|apply qe|apply qa|apply qf|skip)
     |with_reducible first|apply aiA|intro _
    all_goals try exact clz
    rw [hen]at eMn
    try rw [←eMn]
    refine hK3 _ _ ⟨y+1,v+1,.mem v11 58 [.int .i64 (y:Int),.int .i64 (F:Int),.int .i64 (G:Int),.bool false,strs [],qah VL],Q12,Q13,w2+1,.mem (qu (some O15)+1) 58 [.int .i64 (y:Int),.int .i64 (F:Int),.int .i64 (G:Int),.bool false,strs [],qah VL]⟩ ⟨hy,rfl,q12,q13,rfl⟩ (by simp only;omega) ?_
    simp only [eMq]
    refine Wk.temps ?_
    (simp only [qz,zr,qK,wdC,strs,zy,unC,go_sem,qk,qh,qg,qj];try (repeat' first|(with_reducible apply aiA)|(apply qe;omega)|(apply qa;rfl)|exact ql))
   |true=>
   by_cases hb0:0≤bk
   case neg=>
    have n1:(0≤bk)=False:=eq_false hb0
    rw [if_neg (fun hc=>hb0 hc.2)]at hsu
    rw [hsu]at hen
    simp (disch:=omega) only [zy,r3,epb,p15',eMl,eMk,n1,Nat.mul_one,go_sem]
    repeat' first
     |((first|apply qd|apply qb);exact rvk;simp only [go_sem];first|exact ql|apply qe|apply qa|apply qf|skip)
     |with_reducible first|apply aiA|intro _
    all_goals try exact clz
    rw [hen]at eMn
    try rw [←eMn]
    refine hK3 _ _ ⟨y+1,v+1,.mem v11 58 [.int .i64 (y:Int),.int .i64 (F:Int),.int .i64 (G:Int),.bool true,strs [],qah VL],Q12,Q13,w2+1,.mem (qu (some O15)+1) 58 [.int .i64 (y:Int),.int .i64 (F:Int),.int .i64 (G:Int),.bool true,strs [],qah VL]⟩ ⟨hy,rfl,q12,q13,rfl⟩ (by simp only;omega) ?_
    simp only [eMq]
    refine Wk.temps ?_
    (simp only [qz,zr,qK,wdC,strs,zy,unC,go_sem,qk,qh,qg,qj];try (repeat' first|(with_reducible apply aiA)|(apply qe;omega)|(apply qa;rfl)|exact ql))
   case pos=>
    have n1:(0≤bk)=True:=eq_true hb0
    rw [if_pos ⟨rfl,hb0⟩]at hsu
    obtain ⟨r,hr1,hr2⟩: ∃r:Nat,bk=(r:Int)∧r<u.rds.length:=by
     rcases hBc with ⟨i,h1,_,_,h4⟩|⟨_,h2⟩
     ·exact ⟨i,h4,h1⟩
     ·omega
    rw [hr1]at n1
    rw [hr1,Int.toNat_natCast]at hsu
    simp only [hr1]
    have n2:((r:Int)<u.rds.length)=True:=eq_true (by omega)
    obtain ⟨sl,sE⟩:=hsr r hr2
    obtain ⟨rd,hrd⟩: ∃rd,rd=u.rds.getD r default:=⟨_,rfl⟩
    have erd:=hrd.symm
    rw [erd]at sl sE hsu
    have c142:=fun h=>qCM a.x.sig a.gs rd.src h hsz (by omega) (fun _=>h8)
    simp only [sE,←hsu]at c142
    unfold strs qo at c142
    simp (disch:=omega) only [zy,r3,epb,n1,n2,coC,unC,zD,rdC,qo,strs,erd,go_sem]
    repeat' first
     |((first|refine cA (c142 _) ?_ ?_|refine cG (fun e=>c142 _) ?_ ?_|refine cU (fun _=>c142 _) ?_ ?_);exact flk;simp (disch:=omega) only [zy,r3,epb,n1,n2,coC,unC,zD,rdC,qo,strs,erd,p15',eMl,eMk,Nat.mul_one,List.set_cons_succ,List.set_cons_zero,go_sem])
     |((first|apply qd|apply qb);exact rvk;simp only [go_sem];first|exact ql|apply qe|apply qa|apply qf|skip)
     |with_reducible first|apply aiA|intro _
    all_goals try exact clz
    rw [hen]at eMn
    unfold strs at eMn
    try rw [←eMn]
    refine hK3 _ _ ⟨y+1,v+1,.mem v11 58 [.int .i64 (y:Int),.int .i64 (F:Int),.int .i64 (G:Int),.bool true,strs su,qah VL],Q12,Q13,w2+1,.mem (qu (some O15)+1) 58 [.int .i64 (y:Int),.int .i64 (F:Int),.int .i64 (G:Int),.bool true,strs su,qah VL]⟩ ⟨hy,rfl,q12,q13,rfl⟩ (by simp only;omega) ?_
    simp only [eMq]
    refine Wk.temps ?_
    (simp only [qz,zr,qK,wdC,strs,zy,unC,go_sem,qk,qh,qg,qj];try (repeat' first|(with_reducible apply aiA)|(apply qe;omega)|(apply qa;rfl)|exact ql))
theorem qDR (e:En) (h:List AObj) (hs:e.sup.length≤1000000000) (hv:e.vars.length≤1000000000) (hw: ∀j,(e.vars.getD j default).words.length≤1000000000) (hg: ∀j,(e.vars.getD j default).sigla.length≤1000000000):
  ACalls Tryz.prog 30 [.agg (enC e),.agg (enC e)] h (.bool true) h:=by
 have c85:=fun h=>qBZ e.sup e.sup h hs hs
 rw [decide_eq_true rfl]at c85
 have zv1: ∀g,valL g .len [qah e.vars]= .int .i64 e.vars.length:=fun _=>rfl
 have zv2: ∀g,okL g .len [qah e.vars]=True:=fun _=>eq_true trivial
 refine acO qBf ?_
 simp (disch:=omega) only [qCp,enC,zv1,zv2,go_sem]
 repeat' first
  |((first|refine cA (c85 _) ?_ ?_|refine cG (fun e=>c85 _) ?_ ?_|refine cU (fun _=>c85 _) ?_ ?_);exact flk;simp (disch:=omega) only [enC,zv1,zv2,go_sem])
  |((first|apply qd|apply qb);exact rvk;simp only [go_sem];first|exact ql|apply qe|apply qa|apply qf|skip)
  |with_reducible first|apply aiA|intro _
 all_goals try exact clz
 refine qt (T:=fun i:Nat=>qT 86 [(2,.op h.length 1 0),(3,.op (h.length+1) 1 0),(5,.int .i64 i)])
  (H:=fun _=>h++ [.mem 1 58 [.int .i64 e.layer,.int .i64 e.frm,.int .i64 e.to,.bool e.pos,strs e.sup,qah e.vars],.mem 1 58 [.int .i64 e.layer,.int .i64 e.frm,.int .i64 e.to,.bool e.pos,strs e.sup,qah e.vars]])
  (inv:=fun i=>i≤e.vars.length) (m:=fun i=>e.vars.length-i) 0 (Nat.zero_le _) (Wk.temps ?_) ?_
 ·(simp only [go_sem,qk,qh,qg,qj];try (repeat' first|(with_reducible apply aiA)|(apply qe;omega)|(apply qa;rfl)|exact ql))
 rintro i i1 K hK
 by_cases hi:i<e.vars.length
 ·have k1:((i:Int)<e.vars.length)=True:=eq_true (by omega)
  have cw:=fun h=>qBZ (e.vars.getD i default).words (e.vars.getD i default).words h (hw i) (hw i)
  have cg:=fun h=>qBZ (e.vars.getD i default).sigla (e.vars.getD i default).sigla h (hg i) (hg i)
  rw [decide_eq_true rfl]at cw cg
  obtain ⟨x,hx⟩: ∃x,x=e.vars.getD i default:=⟨_,rfl⟩
  have ex:=hx.symm
  simp only [ex]at cw cg
  have zz:qah e.vars= .sl e.vars.length fun i=>vaC (e.vars.getD i default):=rfl
  simp (disch:=omega) only [zz,vaC,k1,ex,go_sem]
  repeat' first
   |((first|refine cA (cw _) ?_ ?_|refine cG (fun e=>cw _) ?_ ?_|refine cA (cg _) ?_ ?_|refine cG (fun e=>cg _) ?_ ?_|refine cU (fun _=>cw _) ?_ ?_|refine cU (fun _=>cg _) ?_ ?_);exact flk;simp (disch:=omega) only [zz,vaC,k1,ex,go_sem])
   |((first|apply qd|apply qb);exact rvk;simp only [go_sem];first|exact ql|apply qe|apply qa|apply qf|skip)
   |with_reducible first|apply aiA|intro _
  all_goals try exact clz
  refine hK _ _ (i+1) hi (by omega) (Wk.temps ?_)
  (simp only [zz,go_sem,qk,qh,qg,qj];try (repeat' first|(with_reducible apply aiA)|(apply qe;omega)|(apply qa;rfl)|exact ql))
 ·have k1:((i:Int)<e.vars.length)=False:=eq_false (by omega)
  simp (disch:=omega) only [k1,zv1,zv2,go_sem]
  repeat' first
   |((first|apply qd|apply qb);exact rvk;simp only [go_sem];first|exact ql|apply qe|apply qa|apply qf|skip)
   |with_reducible first|apply aiA|intro _
  all_goals try exact clz
structure EqZ (l:List En):Prop where
 n:l.length≤1000000000
 s: ∀i,(l.getD i default).sup.length≤1000000000
 v: ∀i,(l.getD i default).vars.length≤1000000000
 w: ∀i j,((l.getD i default).vars.getD j default).words.length≤1000000000
 g: ∀i j,((l.getD i default).vars.getD j default).sigla.length≤1000000000
theorem qDQ (l:List En) (h:List AObj) (hz:EqZ l):ACalls Tryz.prog 29 [qan l,qan l] h (.bool true) h:=by
 have c68:=fun i h=>qDR (l.getD i default) h (hz.s i) (hz.v i) (hz.w i) (hz.g i)
 have hn:=hz.n
 refine acO qBe ?_
 simp (disch:=omega) only [qCo,qan,go_sem]
 repeat' first
  |((first|apply qd|apply qb);exact rvk;simp only [go_sem];first|exact ql|apply qe|apply qa|apply qf|skip)
  |with_reducible first|apply aiA|intro _
 all_goals try exact clz
 refine qt (T:=fun i:Nat=>qT 27 [(0,qan l),(1,qan l),(5,.int .i64 i)]) (H:=fun _=>h) (inv:=fun i=>i≤l.length) (m:=fun i=>l.length-i) 0 (Nat.zero_le _) (Wk.temps ?_) ?_
 ·(simp only [qan,go_sem,qk,qh,qg,qj];try (repeat' first|(with_reducible apply aiA)|(apply qe;omega)|(apply qa;rfl)|exact ql))
 rintro i i1 K hK
 by_cases hi:i<l.length
 ·have k1:((i:Int)<l.length)=True:=eq_true (by omega)
  have c68:=c68 i
  obtain ⟨x,hx⟩: ∃x,x=l.getD i default:=⟨_,rfl⟩
  have ex:=hx.symm
  simp only [ex]at c68
  unfold enC at c68
  simp (disch:=omega) only [qan,enC,k1,ex,go_sem]
  repeat' first
   |((first|refine cA (c68 _) ?_ ?_|refine cG (fun e=>c68 _) ?_ ?_|refine cU (fun _=>c68 _) ?_ ?_);exact flk;simp (disch:=omega) only [qan,enC,k1,ex,go_sem])
   |((first|apply qd|apply qb);exact rvk;simp only [go_sem];first|exact ql|apply qe|apply qa|apply qf|skip)
   |with_reducible first|apply aiA|intro _
  all_goals try exact clz
  refine hK _ _ (i+1) hi (by omega) (Wk.temps ?_)
  (simp only [qan,go_sem,qk,qh,qg,qj];try (repeat' first|(with_reducible apply aiA)|(apply qe;omega)|(apply qa;rfl)|exact ql))
 ·have k1:((i:Int)<l.length)=False:=eq_false (by omega)
  simp (disch:=omega) only [qan,k1,go_sem]
  repeat' first
   |((first|apply qd|apply qb);exact rvk;simp only [go_sem];first|exact ql|apply qe|apply qa|apply qf|skip)
   |with_reducible first|apply aiA|intro _
  all_goals try exact clz
theorem qm1 (names:List Str) (gs:List Gr) (S:List Int):(shR names gs S).length≤200:=by
 unfold shR
 split
 ·rw [List.length_map]
  unfold qAv
  obtain ⟨k,_,e⟩:=qkq gs (jD S) (qaj gs (jD S)) (2^(qaj gs (jD S)).length-1)
  rw [e,qei]
  have h1:=zL k.testBit 64
  have h2:=zL (anN (jD S) (chN (usM gs (qaj gs (jD S))) k)).testBit 64
  unfold qoc
  omega
 ·exact Nat.zero_le _
theorem qtw {a:Ap} (hz:qsc a):(enR a).length≤216:=by
 unfold enR
 split
 ·have h1:=qlc a a.l.length 0
  have h2:a.l.length*a.lay.length≤12*18:=Nat.mul_le_mul hz.l12 hz.y18
  have h3:enU a a.l.length++enY a a.l.length 0=enU a a.l.length:=by show _++ []=_;simp
  rw [h3]at h1
  omega
 ·exact Nat.zero_le _
structure EnZ (e:En):Prop where
 s:e.sup.length≤200
 v:e.vars.length≤1000000000
 w: ∀j,(e.vars.getD j default).words.length≤1000000000
 g: ∀j,(e.vars.getD j default).sigla.length≤200
theorem qxr {a:Ap} (hz:qsc a) (k y:Nat):EnZ (enK a k y):=by
 refine ⟨?_,?_,?_,?_⟩
 ·show (suK a k y).length≤200
  unfold suK
  split
  ·exact qm1 _ _ _
  ·exact Nat.zero_le _
 ·show (vrK a k y).length≤_
  rw [qex]
  unfold vrI
  have h1:=List.length_filter_le (vrP a k y) (List.range (a.l.getD k default).rds.length)
  rw [List.length_range]at h1
  exact Nat.le_trans h1 (hz.un.rd k)
 ·intro j
  show ((vrK a k y).getD j default).words.length≤_
  by_cases hj:j<(vrK a k y).length
  ·obtain ⟨r,_,e⟩:=qa9 hj
   rw [e]
   exact hz.un.wd k r
  ·rw [gdqA,List.getElem?_eq_none (by omega)]
   exact Nat.zero_le _
 ·intro j
  show ((vrK a k y).getD j default).sigla.length≤_
  by_cases hj:j<(vrK a k y).length
  ·obtain ⟨r,_,e⟩:=qa9 hj
   rw [e]
   exact qm1 _ _ _
  ·rw [gdqA,List.getElem?_eq_none (by omega)]
   exact Nat.zero_le _
theorem qxs {a:Ap} (hz:qsc a) (i:Nat):EnZ ((enR a).getD i default):=by
 by_cases hi:i<(enR a).length
 ·have hm:=qcU hi
  by_cases hE:enE a=0
  ·obtain ⟨k,_,y,_,_,e⟩:=(qld hE).1 hm
   rw [e]
   exact qxr hz k y
  ·unfold enR at hi
   rw [if_neg hE]at hi
   cases hi
 ·rw [gdqA,List.getElem?_eq_none (by omega)]
  exact ⟨Nat.zero_le _,Nat.zero_le _,fun _=>Nat.zero_le _,fun _=>Nat.zero_le _⟩
deriving instance DecidableEq for Va
deriving instance DecidableEq for En
def tkS (s:Str):Tk:=⟨s,s,[],0,0,[]⟩
def qeo:Str:= [100,101,117,115]
def qvW:Str:= [101,115,116]
def qbw:Str:= [98,111,110,117,115]
def xCo:Co:=⟨[97],[[65],[66]],[[tkS qeo,tkS qvW,tkS qbw],[tkS qeo,tkS qbw]],[[0,0],[1,-1],[2,1]]⟩
def xUn:List Un:= [⟨1,2,[⟨[qvW],[0]⟩,⟨[],[1]⟩]⟩]
def xCl:List (List Str):= [[[98,97,115,101],[111,109,105,115,115,105,111,110]]]
def xBa:List Wd:= [⟨qeo,0,-1,-1,false,false,[]⟩,⟨qvW,1,0,-1,false,false,[]⟩,⟨qbw,2,-1,-1,false,false,[]⟩]
def xLa:List Str:= [[111,109,105,115,115,105,111,110]]
def xAp:Ap:=⟨xCo,xUn,xCl,xBa,[],xLa,[true]⟩
def xEn:List En:= [⟨0,1,2,true,[[65]],[⟨[],[[66]]⟩]⟩]
def xL3:List Str:= [[97,32,98],[99],[100]]
theorem qCi:enE xAp=0:=by decide+kernel
theorem qCj:enR xAp=xEn:=by decide+kernel
theorem qvJ:lyR xL3 [120]=2∧lyE xL3=0:=by decide+kernel
theorem qCk:lyR xL3 [98]=0:=by decide+kernel
end RC
end
section
namespace AF
open Go
end AF
end
section
open Go Go.Proofs AF
def qt1:List Nat:= [96]
def qCm:C:=
 ((C.ops [MC 0 (.bool false)]).seq ((C.ops [⟨some 10,none,.build [.str [],i6 0,i6 0,i6 0,.bool false,.bool false,.str []] [(0,1),(2,1),(3,1)],[.c (.str [100,101,117,
 115]),.c (i6 (-1)),.c (i6 (-1))]⟩,⟨some 11,none,.build [.str [],i6 0,i6 0,i6 0,.bool false,.bool false,.str []] [(0,1),(1,1),(3,1)],[.c (.str [101,115,116]),.c
 (i6 1),.c (i6 (-1))]⟩,⟨some 12,none,.build [.str [],i6 0,i6 0,i6 0,.bool false,.bool false,.str []] [(0,1),(1,1),(2,1),(3,1)],[.c (.str [98,111,110,117,115]),
 .c (i6 2),.c (i6 (-1)),.c (i6 (-1))]⟩,⟨some 13,none,.bslc 0 7 3 64 [.str [],i6 0,i6 0,i6 0,.bool false,.bool false,.str []] [(0,7),(7,7),(14,7)],[.t 10,.t 11,.t
 12]⟩,MV 1 13]).seq ((C.ops [⟨some 14,none,.bslc 1 1 1 9 [.str []] [(0,1)],[.c (.str [101,115,116])]⟩,⟨some 15,none,.bslc 2 1 1 3 [i6 0] [(0,1)],[.c (i6 0)]⟩,⟨some 16,
 none,.build [.nl,.nl] [(0,1),(1,1)],[.t 14,.t 15]⟩,⟨some 17,none,.bslc 3 1 1 3 [i6 0] [(0,1)],[.c (i6 1)]⟩,⟨some 18,none,.build [.nl,.nl] [(1,1)],[.t 17]⟩,⟨some
 19,none,.bslc 4 2 2 89 [.nl,.nl] [(0,2),(2,2)],[.t 16,.t 18]⟩,⟨some 20,none,.build [i6 0,i6 0,.nl] [(0,1),(1,1),(2,1)],[.c (i6 1),.c (i6 2),.t 19]⟩,⟨some 21,
 none,.bslc 5 3 1 83 [i6 0,i6 0,.nl] [(0,3)],[.t 20]⟩,MV 2 21]).seq ((C.ops [ON 23 (.call 97 true) [],MV 24 2,⟨some 25,none,.bslc 6 1 2 9 [.str []] [(0,1),(1,1)],[.c
 (.str [98,97,115,101]),.c (.str [111,109,105,115,115,105,111,110])]⟩,⟨some 26,none,.bslc 7 1 1 22 [.nl] [(0,1)],[.t 25]⟩,MV 27 1,⟨some 28,none,.bslc 8 1 1 9
 [.str []] [(0,1)],[.c (.str [111,109,105,115,115,105,111,110])]⟩,⟨some 29,none,.bslc 9 1 1 4 [.bool false] [(0,1)],[.c (.bool true)]⟩,ON 30 (.call 96 false) [.t 23,
 .t 24,.t 26,.t 27,.c .nl,.t 28,.t 29],MV 22 30,O1 31 (.ext 0) 22,O1 32 (.ext 1) 22,MV 3 31,MV 4 32]).seq ((C.ops [⟨some 33,none,.bslc 10 1 1 9 [.str []] [(0,1)],[.c
 (.str [65])]⟩,⟨some 34,none,.bslc 11 1 1 9 [.str []] [(0,1)],[.c (.str [66])]⟩,⟨some 35,none,.build [.nl,.nl] [(1,1)],[.t 34]⟩,⟨some 36,none,.bslc 12 2 1 85 [.nl,
 .nl] [(0,2)],[.t 35]⟩,⟨some 37,none,.build [i6 0,i6 0,i6 0,.bool false,.nl,.nl] [(1,1),(2,1),(3,1),(4,1),(5,1)],[.c (i6 1),.c (i6 2),.c (.bool true),.t 33,
 .t 36]⟩,⟨some 38,none,.bslc 13 6 1 58 [i6 0,i6 0,i6 0,.bool false,.nl,.nl] [(0,6)],[.t 37]⟩,MV 5 38]).seq ((C.ops [⟨some 40,none,.bslc 14 1 3 9 [.str []] [(0,1),(1,
 1),(2,1)],[.c (.str [97,32,98]),.c (.str [99]),.c (.str [100])]⟩,OC 41 (.call 27 true) 40 (.str [120]),MV 39 41,O1 42 (.ext 0) 39,O1 43 (.ext 1) 39,MV 6 42,MV 7
 43]).seq ((C.ops [⟨some 45,none,.bslc 15 1 3 9 [.str []] [(0,1),(1,1),(2,1)],[.c (.str [97,32,98]),.c (.str [99]),.c (.str [100])]⟩,OC 46 (.call 27 true) 45 (.str
 [98]),MV 44 46,O1 47 (.ext 0) 44,O1 48 (.ext 1) 44,MV 8 47,MV 9 48]).seq ((C.ops [MV 49 4,MV 50 7,MV 51 9,ON 52 (.mm true) [.t 49,.t 50,.t 51],BC 53 .eql 52 (i6 0),MV
 54 53,MG 55 54 true 3,MG 56 54 true 5,P2 57 54 true (.call 29 true) 55 56,PF 58 54 57,MV 59 58,MG 60 59 true 6,PC 61 59 true (.bin .eql) 60 (i6 2),PF 62 59 61,MV 63 62,MG
 64 63 true 8,PC 65 63 true (.bin .eql) 64 (i6 0),PF 66 63 65,MV 0 66]).seq
 C.ret))))))))
theorem qBc:qN Tryz.prog 24 67 16 [RV.tmp 0] qCm:=fi Tryz.f24 [13,14,15,17,19,21,25,26,28,29,33,34,36,38,40,45] qt1 []
end
section
open Go Go.Proofs AF HY LN
namespace RC
theorem il1 {f g:Nat→List AV} (h:f 0=g 0):ILe (.sl 1 f) (.sl 1 g):=ILe.sl_eq fun i hi=>by
 obtain rfl:i=0:=by omega
 exact h
theorem il2 {f g:Nat→List AV} (h0:f 0=g 0) (h1:f 1=g 1):ILe (.sl 2 f) (.sl 2 g):=ILe.sl_eq fun i hi=>by
 match i,hi with
 |0,_=>exact h0
 |1,_=>exact h1
 |n+2,hi=>exact absurd hi (by omega)
theorem il3 {f g:Nat→List AV} (h0:f 0=g 0) (h1:f 1=g 1) (h2:f 2=g 2):ILe (.sl 3 f) (.sl 3 g):=ILe.sl_eq fun i hi=>by
 match i,hi with
 |0,_=>exact h0
 |1,_=>exact h1
 |2,_=>exact h2
 |n+3,hi=>exact absurd hi (by omega)
theorem im1 {f g:Nat→List AV} (h:qak (f 0) (g 0)):ILe (.sl 1 f) (.sl 1 g):=ILe.sl fun i hi=>by
 obtain rfl:i=0:=by omega
 exact h
theorem im2 {f g:Nat→List AV} (h0:qak (f 0) (g 0)) (h1:qak (f 1) (g 1)):ILe (.sl 2 f) (.sl 2 g):=ILe.sl fun i hi=>by
 match i,hi with
 |0,_=>exact h0
 |1,_=>exact h1
 |n+2,hi=>exact absurd hi (by omega)
theorem vl1 {f g:Nat→List AV} (h:qak (f 0) (g 0)):VLe (.sl 1 f) (.sl 1 g):=VLe.sl fun i hi=>by
 obtain rfl:i=0:=by omega
 exact h
theorem vl2 {f g:Nat→List AV} (h0:qak (f 0) (g 0)) (h1:qak (f 1) (g 1)):VLe (.sl 2 f) (.sl 2 g):=VLe.sl fun i hi=>by
 match i,hi with
 |0,_=>exact h0
 |1,_=>exact h1
 |n+2,hi=>exact absurd hi (by omega)
theorem vl3 {f g:Nat→List AV} (h0:qak (f 0) (g 0)) (h1:qak (f 1) (g 1)) (h2:qak (f 2) (g 2)):VLe (.sl 3 f) (.sl 3 g):=VLe.sl fun i hi=>by
 match i,hi with
 |0,_=>exact h0
 |1,_=>exact h1
 |2,_=>exact h2
 |n+3,hi=>exact absurd hi (by omega)
theorem ie {a b:AV} (h:a=b):ILe a b:=by rw [h];exact ILe.refl _
theorem qB2 (s:Str) (h:List AObj):ACalls Tryz.prog 163 [.str s] h (.agg (tkC (tkS s))) h:=by
 unfold tkS tkC
 refine acO qxU ?_
 simp (disch:=omega) only [qwq,go_sem]
 repeat' first
  |((first|apply qd|apply qb);exact rvk;simp only [go_sem];first|exact ql|apply qe|apply qa|apply qf|skip)
  |with_reducible first|apply aiA|intro _
 all_goals try exact clz
theorem qvI:qtT xAp=false:=by decide+kernel
theorem qEa:qsc xAp:=qlD qvI
theorem qBY (h:List AObj):ACalls Tryz.prog 97 [] h (.agg (coC xCo)) h:=by
 have c1:=fun s h=>qB2 s h
 unfold tkC tkS at c1
 refine acO qBx ?_
 simp (disch:=omega) only [qCA,go_sem]
 repeat' first
  |((first|refine cA (c1 qeo _) ?_ ?_|refine cG (fun e=>c1 qeo _) ?_ ?_|refine cA (c1 qvW _) ?_ ?_|refine cG (fun e=>c1 qvW _) ?_ ?_|refine cA (c1 qbw _) ?_ ?_|refine cG (fun e=>c1 qbw _) ?_ ?_|refine cA (c1 qeo _) ?_ ?_|refine cG (fun e=>c1 qeo _) ?_ ?_|refine cA (c1 qbw _) ?_ ?_|refine cG (fun e=>c1 qbw _) ?_ ?_|refine cU (fun _=>c1 qeo _) ?_ ?_|refine cU (fun _=>c1 qvW _) ?_ ?_|refine cU (fun _=>c1 qbw _) ?_ ?_|refine cU (fun _=>c1 qeo _) ?_ ?_|refine cU (fun _=>c1 qbw _) ?_ ?_);exact flk;simp (disch:=omega) only [go_sem])
  |((first|apply qd|apply qb);exact rvk;simp only [go_sem];first|exact ql|apply qe|apply qa|apply qf|skip)
  |with_reducible first|apply aiA|intro _
 all_goals try exact clz
 refine VLe.agg ⟨ql,vl2 ⟨ie rfl,trivial⟩ ⟨ie rfl,trivial⟩,vl2 ⟨?a1,trivial⟩ ⟨?a2,trivial⟩,vl3 ⟨?a3,trivial⟩ ⟨?a4,trivial⟩ ⟨?a5,trivial⟩,trivial⟩
 case a1=>simp only [go_sem];exact il3 rfl rfl rfl
 case a2=>simp only [go_sem];exact il2 rfl rfl
 case a3=>simp only [go_sem];exact il2 rfl rfl
 case a4=>simp only [go_sem];exact il2 rfl rfl
 case a5=>simp only [go_sem];exact il2 rfl rfl
theorem qBH (a:Ap) (h:List AObj) (hz:qsc a) (hp:qba SG h):ACalls Tryz.prog 25 [.agg (apC a)] h (.tup [qan (enR a),.int .i64 (enE a)]) h:=by
 have c1:=fun l=>qCC a (h++l) hz (hp.app l)
 unfold coC at c1
 refine acO qBd ?_
 simp (disch:=omega) only [qCn,apC,go_sem]
 repeat' first
  |((first|refine cA (c1 _) ?_ ?_|refine cG (fun e=>c1 _) ?_ ?_|refine cU (fun _=>c1 _) ?_ ?_);exact flk;simp (disch:=omega) only [apC,go_sem])
  |((first|apply qd|apply qb);exact rvk;simp only [go_sem];first|exact ql|apply qe|apply qa|apply qf|skip)
  |with_reducible first|apply aiA|intro _
 all_goals try exact clz
theorem qAL (h:List AObj) (hp:qba SG h):ACalls Tryz.prog 24 [] h (.bool true) h:=by
 have c1:=fun h=>qBY h
 refine acO qBc ?_
 simp (disch:=omega) only [qCm,go_sem]
 repeat' first
  |((first|refine cA (c1 _) ?_ ?_|refine cG (fun e=>c1 _) ?_ ?_|refine cU (fun _=>c1 _) ?_ ?_);exact flk;simp (disch:=omega) only [go_sem])
  |((first|apply qd|apply qb);exact rvk;simp only [go_sem];first|exact ql|apply qe|apply qa|apply qf|skip)
  |with_reducible first|apply aiA|intro _
 all_goals try exact clz
 have zm:valP (.mm true) [.int .i64 0,.int .i64 0,.int .i64 0]= .int .i64 0:=rfl
 have zn:okP (.mm true) [.int .i64 0,.int .i64 0,.int .i64 0]=True:=eq_true (by simp [okP,qb8])
 have c2:=fun l=>qCC xAp (h++l) qEa (hp.app l)
 rw [qCi,qCj]at c2
 refine qbf (r:= .tup [qan xEn,.int .i64 0]) (h':=h++ [.emp 2,.emp 2,.emp 2,.emp 2,.emp 2,.emp 2,.emp 2,.emp 2,.emp 2,.emp 2,.emp 0,.emp 0,.emp 0,.emp 0,.emp 0,.emp 0])
  (qDt [h.length,h.length+1,h.length+2,h.length+3,h.length+4,h.length+5,h.length+6,h.length+7,h.length+8,h.length+9] (by simp only [qag,go_sem]) ?c) (by exact flk) ?_
 case c=>
  simp only [qd9,go_sem]
  refine ACalls.le (c2 _) ?_ (ql)
  obtain ⟨fz,hfz⟩: ∃fz:Nat→Bool,fz=fun k=> [h.length,h.length+1,h.length+2,h.length+3,h.length+4,h.length+5,h.length+6,h.length+7,h.length+8,h.length+9].contains k:=⟨_,rfl⟩
  rw [←hfz]
  have f0:fz h.length=true:=by rw [hfz];simp
  have f1:fz (h.length+1)=true:=by rw [hfz];simp
  have f2:fz (h.length+2)=true:=by rw [hfz];simp
  have f3:fz (h.length+3)=true:=by rw [hfz];simp
  have f4:fz (h.length+4)=true:=by rw [hfz];simp
  have f5:fz (h.length+5)=true:=by rw [hfz];simp
  have f6:fz (h.length+6)=true:=by rw [hfz];simp
  have f7:fz (h.length+7)=true:=by rw [hfz];simp
  have f8:fz (h.length+8)=true:=by rw [hfz];simp
  have f9:fz (h.length+9)=true:=by rw [hfz];simp
  have g0:([h.length,h.length+1,h.length+2,h.length+3,h.length+4,h.length+5,h.length+6,h.length+7,h.length+8,h.length+9]:List Nat).contains h.length=true:=by simp
  have g1:([h.length,h.length+1,h.length+2,h.length+3,h.length+4,h.length+5,h.length+6,h.length+7,h.length+8,h.length+9]:List Nat).contains (h.length+1)=true:=by simp
  have g2:([h.length,h.length+1,h.length+2,h.length+3,h.length+4,h.length+5,h.length+6,h.length+7,h.length+8,h.length+9]:List Nat).contains (h.length+2)=true:=by simp
  have g3:([h.length,h.length+1,h.length+2,h.length+3,h.length+4,h.length+5,h.length+6,h.length+7,h.length+8,h.length+9]:List Nat).contains (h.length+3)=true:=by simp
  have g4:([h.length,h.length+1,h.length+2,h.length+3,h.length+4,h.length+5,h.length+6,h.length+7,h.length+8,h.length+9]:List Nat).contains (h.length+4)=true:=by simp
  have g5:([h.length,h.length+1,h.length+2,h.length+3,h.length+4,h.length+5,h.length+6,h.length+7,h.length+8,h.length+9]:List Nat).contains (h.length+5)=true:=by simp
  have g6:([h.length,h.length+1,h.length+2,h.length+3,h.length+4,h.length+5,h.length+6,h.length+7,h.length+8,h.length+9]:List Nat).contains (h.length+6)=true:=by simp
  have g7:([h.length,h.length+1,h.length+2,h.length+3,h.length+4,h.length+5,h.length+6,h.length+7,h.length+8,h.length+9]:List Nat).contains (h.length+7)=true:=by simp
  have g8:([h.length,h.length+1,h.length+2,h.length+3,h.length+4,h.length+5,h.length+6,h.length+7,h.length+8,h.length+9]:List Nat).contains (h.length+8)=true:=by simp
  have g9:([h.length,h.length+1,h.length+2,h.length+3,h.length+4,h.length+5,h.length+6,h.length+7,h.length+8,h.length+9]:List Nat).contains (h.length+9)=true:=by simp
  clear hfz
  simp only [go_sem,coC,List.map_cons,List.map_nil,f0,f1,f2,f3,f4,f5,f6,f7,f8,f9,g0,g1,g2,g3,g4,g5,g6,g7,g8,g9,if_true]
  refine ⟨ql,vl1 ⟨ie rfl,ie rfl,?b1,trivial⟩,vl1 ⟨?b2,trivial⟩,VLe.sl_eq rfl (fun i hi=> ?b3),kM,VLe.sl_eq rfl (fun i hi=> ?b4),VLe.sl_eq rfl (fun i hi=> ?b5),trivial⟩
  case b1=>
   simp only [go_sem,f0,f1,f2,f3,f4,f5,f6,f7,f8,f9,g0,g1,g2,g3,g4,g5,g6,g7,g8,g9,if_true]
   refine im2 ⟨?u1,?u2,trivial⟩ ⟨ILe.nl,?u3,trivial⟩
   all_goals
    simp only [go_sem,f0,f1,f2,f3,f4,f5,f6,f7,f8,f9,g0,g1,g2,g3,g4,g5,g6,g7,g8,g9,if_true]
    exact il1 rfl
  case b2=>
   simp only [go_sem,f0,f1,f2,f3,f4,f5,f6,f7,f8,f9,g0,g1,g2,g3,g4,g5,g6,g7,g8,g9,if_true]
   exact il2 rfl rfl
  case b3=>
   match i,hi with
   |0,_=>rfl
   |1,_=>rfl
   |2,_=>rfl
   |n+3,hi=>exact absurd hi (by omega)
  case b4=>
   obtain rfl:i=0:=by omega
   rfl
  case b5=>
   obtain rfl:i=0:=by omega
   rfl
 simp (disch:=omega) only [go_sem]
 repeat' first
  |((first|apply qd|apply qb);exact rvk;simp only [go_sem];first|exact ql|apply qe|apply qa|apply qf|skip)
  |with_reducible first|apply aiA|intro _
 all_goals try exact clz
 have lz: ∀i,(xL3.getD i []).length≤100000000:=zj xL3 (fun s=>s.length≤100000000) (by decide) (by decide)
 refine cA (r:= .tup [.int .i64 2,.int .i64 0]) ?d (by exact flk) ?_
 case d=>
  have c2:=lyP xL3 [120] [] (by decide) lz
  rw [qvJ.1,qvJ.2]at c2
  refine ACalls.borrow (c2.le ?_ (ql)) (by simp [qbj,jV])
  simp only [List.map_cons,List.map_nil,go_sem]
  exact ⟨VLe.sl_eq rfl (fun i hi=>by
   match i,hi with
   |0,_=>rfl
   |1,_=>rfl
   |2,_=>rfl
   |n+3,hi=>exact absurd hi (by omega)),ql,trivial⟩
 simp (disch:=omega) only [go_sem]
 repeat' first
  |((first|apply qd|apply qb);exact rvk;simp only [go_sem];first|exact ql|apply qe|apply qa|apply qf|skip)
  |with_reducible first|apply aiA|intro _
 all_goals try exact clz
 refine cA (r:= .tup [.int .i64 0,.int .i64 0]) ?e (by exact flk) ?_
 case e=>
  have c2:=lyP xL3 [98] [] (by decide) lz
  rw [qCk,qvJ.2]at c2
  refine ACalls.borrow (c2.le ?_ (ql)) (by simp [qbj,jV])
  simp only [List.map_cons,List.map_nil,go_sem]
  exact ⟨VLe.sl_eq rfl (fun i hi=>by
   match i,hi with
   |0,_=>rfl
   |1,_=>rfl
   |2,_=>rfl
   |n+3,hi=>exact absurd hi (by omega)),ql,trivial⟩
 simp (disch:=omega) only [zm,zn,go_sem]
 repeat' first
  |((first|apply qd|apply qb);exact rvk;simp only [go_sem];first|exact ql|apply qe|apply qa|apply qf|skip)
  |with_reducible first|apply aiA|intro _
 all_goals try exact clz
 have xz:EqZ xEn:=by
  refine ⟨by decide,?_,?_,?_,?_⟩
  ·exact zj xEn (fun e=>e.sup.length≤1000000000) (by decide) (by decide)
  ·exact zj xEn (fun e=>e.vars.length≤1000000000) (by decide) (by decide)
  ·exact zj xEn (fun e=> ∀j,(e.vars.getD j default).words.length≤1000000000) (fun j=>by simp [show (default:En).vars= []from rfl,show (default:Va).words= []from rfl]) fun i hi=>by
    obtain rfl:i=0:=by have:xEn.length=1:=rfl;omega
    exact zj _ (fun v:Va=>v.words.length≤1000000000) (by decide) (by decide)
  ·exact zj xEn (fun e=> ∀j,(e.vars.getD j default).sigla.length≤1000000000) (fun j=>by simp [show (default:En).vars= []from rfl,show (default:Va).sigla= []from rfl]) fun i hi=>by
    obtain rfl:i=0:=by have:xEn.length=1:=rfl;omega
    exact zj _ (fun v:Va=>v.sigla.length≤1000000000) (by decide) (by decide)
 refine cG (fun _=>ACalls.borrow ((qDQ xEn [] xz).le ?g1 (ql)) rfl) (fun _=>by exact flk) ?_
 case g1=>
  simp only [List.map_cons,List.map_nil,go_sem]
  refine ⟨ql,vl1 ⟨ie rfl,ie rfl,ie rfl,ie rfl,?h1,?h2,trivial⟩,trivial⟩
  case h1=>simp only [go_sem,if_true];exact il1 rfl
  case h2=>
   simp only [go_sem,if_true]
   refine im1 ⟨ILe.nl,?h3,trivial⟩
   simp only [go_sem,if_true]
   exact il1 rfl
 simp (disch:=omega) only [go_sem]
 repeat' first
  |((first|apply qd|apply qb);exact rvk;simp only [go_sem];first|exact ql|apply qe|apply qa|apply qf|skip)
  |with_reducible first|apply aiA|intro _
 all_goals try exact clz
end RC
end
section
open Go Go.Proofs AF
end
section
open Go Go.Proofs AF HY LN
namespace RC
end RC
end
section
open Go Go.Proofs AF
end
section
open Go Go.Proofs AF HY LN
namespace RC
section
variable {q : En → Bool} {L : List En} {J : Nat}
theorem qhy (hJ:J<L.length):L.take (J+1)=L.take J++ [L.getD J default]:=by
 rw [List.take_add_one,qZ hJ,gdqA,qZ hJ]
 rfl
end
section
variable {k v w : Nat} {h l : List AObj} {ty : TypeId} {cs : List AV}
theorem qlV (hk:k<h.length):jb (setO k h (.mem w ty cs)++l) k v=decide (w=v):=by unfold jb;rw [qd5 hk];first|rfl|simp
end
end RC
end
section
open Go Go.Proofs AF
end
section
open Go Go.Proofs AF HY LN
namespace RC
end RC
end
section
open Go Go.Proofs AF
end
section
open Go Go.Proofs AF
end
section
open Go Go.Proofs AF HY LN
namespace RC
theorem qrc (names:List Str) (gs:List Gr) (e:En):(vsL names gs e).length≤1000:=by
 unfold vsL
 split
 ·exact Nat.le_trans (zL _ _) (by omega)
 ·exact Nat.zero_le _
def qDo (names:List Str) (gs:List Gr) (p:Un) (v:Va):Bool:=decide (qaW names gs v.sigla=0)&&zd (fun j=>decide ((p.rds.getD j default).words=v.words)&&decide ((p.rds.getD j default).src=jq names gs v.sigla)) p.rds.length
def qCU (p:Un) (w:List Str):Nat→List Int
 |0=> []
 |j+1=>if (p.rds.getD j default).words=w then (p.rds.getD j default).src else qCU p w j
def okB (names:List Str) (gs:List Gr) (w:List Str) (p:Un) (e:En):Bool:=
 if zd (fun j=> !qDo names gs p (e.vars.getD j default)) e.vars.length=true then false else if e.pos=false then decide (e.sup.length=0) else
  decide (qaW names gs e.sup=0)&&decide (jq names gs e.sup=qCU p (qco w e.frm.toNat e.to.toNat) p.rds.length)
end RC
end
section
open Go Go.Proofs AF
end
section
open Go Go.Proofs AF HY LN
namespace RC
end RC
end
section
open Go Go.Proofs AF
def qf8:List Nat:= [60,59]
def qAw:C:=
 ((C.ops [O1 1 (.box 0 47) 0,MC 2 (.bool false)]).seq (((C.ops [O1 26 (.load (some 10)) 1,O1 27 (.call 23 true) 26]).seq (C.cond (.t 27) ((C.ops [ON 28 (.call 24 true) [],MV 2
 28]).seq C.ret) C.skip)).seq ((C.ops [O1 30 (.load (some 10)) 1,O1 31 (.call 25 true) 30,MV 29 31,O1 32 (.ext 0) 29,O1 33 (.ext 1) 29,MV 3 32,MV 4 33]).seq (((C.ops [MV 34 4,
 BC 35 .neq 34 (i6 0)]).seq (C.cond (.t 35) ((C.ops [ON 36 (.call 24 true) [],MV 2 36]).seq C.ret) C.skip)).seq ((C.ops [MC 5 (i6 0)]).seq (((C.ops [O1 37 (.fldA 4) 1,LD 38 37,O1
 39 .len 38,MC 40 (i6 0)]).seq (C.block 0 ((C.ops [BI 41 .lss 40 39]).seq ((C.cond (.t 41) C.skip (C.exit 0)).seq ((C.block 1 ((C.ops [MV 42 40,O2 43 (.idxA 3) 38 40,O1 44 (.load
 (some 3)) 43,⟨some 6,none,.alloc 1 3 [i6 0],[]⟩,⟨some 7,none,.alloc 2 83 [i6 0,i6 0,.nl],[]⟩,ST 1 6 42,ST 3 7 44]).seq ((C.ops [O1 46 (.fldA 0) 1,O1 47 (.load (some
 4)) 46,O1 48 (.fldA 4) 1,LD 49 48,O1 50 (.fldA 6) 1,LD 51 50,LD 52 6,ON 53 (.call 58 true) [.t 47,.t 49,.t 51,.t 52],MV 45 53,O1 54 (.ext 0) 45,O1 55 (.ext 1) 45,MV 8
 54,MV 9 55]).seq (((C.ops [MV 56 9,BC 57 .neq 56 (i6 0)]).seq (C.cond (.t 57) ((C.ops [MC 2 (.bool false)]).seq C.ret) C.skip)).seq ((C.ops [O1 58 (.fldA 6) 1,LD 59 58,O1 60
 (.call 60 false) 59,O2 61 (.mkfn (Fn.func 61) 0) 6 7,O2 62 (.call 59 false) 60 61,O1 63 .len 62,MV 10 63]).seq ((C.ops [MV 64 10,MV 65 8,O1 66 .len 65,BI 67 .add 64 66,MV
 11 67]).seq ((C.ops [ON 68 (.mkmap 3) [],MV 12 68]).seq (((C.ops [MV 69 3,O1 70 .len 69,MC 71 (i6 0)]).seq (C.block 2 ((C.ops [BI 72 .lss 71 70]).seq ((C.cond (.t 72) C.skip
 (C.exit 2)).seq ((C.block 3 ((C.ops [O2 73 (.idxA 6) 69 71,O1 74 (.load (some 6)) 73,⟨some 14,none,.alloc 4 58 [i6 0,i6 0,i6 0,.bool false,.nl,.nl],[]⟩,ST 6 14 74]).seq
 (((C.ops [O1 75 (.fldA 1) 14,LD 76 75,MV 77 10,BI 78 .neq 76 77,MV 79 78,P1 80 79 false (.fldA 2) 14,P1 81 79 false (.load none) 80,MG 82 79 false 11,P2 83 79 false (.bin
 .neq) 81 82,PT 84 79 83]).seq (C.cond (.t 84) (C.exit 3) C.skip)).seq ((C.ops [MV 85 5,BC 86 .add 85 (i6 1),MV 5 86]).seq ((C.ops [O1 88 (.fldA 0) 1,O1 89 (.fldA 1) 88,LD 90
 89,O1 91 (.fldA 7) 1,LD 92 91,O1 93 (.load (some 6)) 14,ON 94 (.call 62 true) [.t 90,.t 92,.t 93],MV 87 94,O1 95 (.ext 0) 87,O1 96 (.ext 1) 87,MV 15 95,MV 16 96]).seq
 (((C.ops [MV 97 16,BC 98 .neq 97 (i6 0)]).seq (C.cond (.t 98) ((C.ops [MC 2 (.bool false)]).seq C.ret) C.skip)).seq ((C.ops [MV 99 15,O1 100 .len 99,MC 101 (i6 0)]).seq (C.block
 4 ((C.ops [BI 102 .lss 101 100]).seq ((C.cond (.t 102) C.skip (C.exit 4)).seq ((C.block 5 ((C.ops [O2 103 (.idxA 1) 99 101,LD 104 103,MV 18 104]).seq ((C.ops [O1 106 (.load (some
 3)) 7,MV 107 18,O2 108 (.call 63 true) 106 107,MV 105 108,O1 109 (.ext 0) 105,O1 110 (.ext 1) 105,MV 19 109,MV 20 110]).seq (((C.ops [MV 111 20,BC 112 .neq 111 (.int .i64
 (Int.ofNat 0))]).seq (C.cond (.t 112) ((C.ops [MC 2 (.bool false)]).seq C.ret) C.skip)).seq ((C.ops [O1 114 (.fldA 8) 1,LD 115 114,O1 116 (.fldA 5) 1,LD 117 116,LD 118 6,O2
 119 (.idxA 1) 117 118,LD 120 119,MV 121 19,O2 122 (.idxA 1) 120 121,LD 123 122,O2 124 (.call 27 true) 115 123,MV 113 124,O1 125 (.ext 0) 113,O1 126 (.ext 1) 113,MV 21 125,
 MV 20 126]).seq (((C.ops [MV 127 20,BC 128 .neq 127 (.int .i64 (Int.ofNat 0)),MV 129 128,MG 130 129 false 21,P1 131 129 false (.fldA 0) 14,P1 132 129 false (.load none) 131,
 P2 133 129 false (.bin .neq) 130 132,PT 134 129 133]).seq (C.cond (.t 134) ((C.ops [MC 2 (.bool false)]).seq C.ret) C.skip)).seq (C.ops [MV 135 12,MV 136 18,O2 137 (.mlk .int
 false (.int .i64 (Int.ofNat 0))) 135 136,BC 138 .add 137 (.int .i64 (Int.ofNat 1)),⟨none,none,.mupd .int,[.t 135,.t 136,.t 138]⟩]))))))).seq (C.ops [BC 139 .add 101 (i6 1),
 MV 101 139])))).loop)))))))).seq (C.ops [BC 140 .add 71 (i6 1),MV 71 140])))).loop)).seq ((C.ops [O1 141 (.fldA 0) 1,O1 142 (.fldA 1) 141,LD 143 142,O1 144 .len 143,MC 145 (i6
 0)]).seq (C.block 6 ((C.ops [BI 146 .lss 145 144]).seq ((C.cond (.t 146) C.skip (C.exit 6)).seq ((C.block 7 ((C.ops [MV 147 145,MV 22 147]).seq ((C.ops [O1 149 (.load (some 3)) 7,
 MV 150 22,O2 151 (.call 63 true) 149 150,MV 148 151,O1 152 (.ext 0) 148,O1 153 (.ext 1) 148,MV 23 152,MV 24 153]).seq (((C.ops [MV 154 24,BC 155 .neq 154 (i6 0)]).seq
 (C.cond (.t 155) ((C.ops [MC 2 (.bool false)]).seq C.ret) C.skip)).seq ((C.ops [MC 25 (i6 1)]).seq (((C.ops [O1 156 (.fldA 2) 7,LD 157 156,MV 158 23,O2 159 (.idxA 2) 157 158,O1
 160 (.fldA 0) 159,LD 161 160,MV 162 8,O2 163 (.call 53 true) 161 162]).seq (C.cond (.t 163) (C.ops [MC 25 (i6 0)]) C.skip)).seq ((C.ops [MV 164 12,MV 165 22,O2 166 (.mlk .int
 false (i6 0)) 164 165,MV 167 25,BI 168 .neq 166 167]).seq (C.cond (.t 168) ((C.ops [MC 2 (.bool false)]).seq C.ret) C.skip)))))))).seq (C.ops [BC 169 .add 145 (i6 1),MV 145
 169])))).loop)))))))))).seq (C.ops [BC 170 .add 40 (i6 1),MV 40 170])))).loop)).seq ((C.ops [MV 171 5,MV 172 3,O1 173 .len 172,BI 174 .eql 171 173,MV 175 174,PN 176 175 true
 (.call 24 true) [],PF 177 175 176,MV 2 177]).seq
 C.ret)))))))
theorem qtI:qN Tryz.prog 10 178 6 [RV.tmp 2] qAw:=fi Tryz.f10 [1,6,7,68,14,60] qf8 []
def qAz:C:=
 ((C.ops [O1 3 (.box 0 64) 0,MC 4 (.bool false)]).seq ((C.ops [O1 5 (.fldA 2) 3,LD 6 5,LD 7 1,BI 8 .eql 6 7,MV 9 8,P1 10 9 false (.fldA 1) 3,P1 11 9 false (.load none) 10,P1
 12 9 false (.fldA 0) 2,P1 13 9 false (.load none) 12,P2 14 9 false (.bin .geq) 11 13,PT 15 9 14,MV 4 15]).seq
 C.ret))
theorem qtL:qN Tryz.prog 61 16 1 [RV.tmp 4] qAz:=fi Tryz.f61 [3] qf8 []
def qAy:C:=
 ((C.ops [ON 4 (.nilo 0 7 64) []]).seq ((C.ops [MV 8 0,MV 9 1,O2 10 (.call 106 true) 8 9,MV 5 10]).seq (((C.ops [MV 11 5,BC 12 .eql 11 (i6 (-1))]).seq (C.cond (.t 12) ((C.ops
 [MV 13 0,MV 4 13]).seq C.ret) C.skip)).seq (((C.ops [MV 14 5,BC 15 .add 14 (i6 1),MV 6 15]).seq (C.block 0 (((C.ops [MV 16 6,MV 17 0,O1 18 .len 17,BI 19 .lss 16 18]).seq
 (C.cond (.t 19) C.skip (C.exit 0))).seq ((C.block 1 ((C.ops [MV 22 0,MV 23 6,O2 24 (.idxA 7) 22 23,O1 25 (.load (some 7)) 24,⟨some 7,none,.alloc 1 64 [.str [],i6 0,i6 0,i6
 0,.bool false,.bool false,.str []],[]⟩,ST 7 7 25]).seq ((C.ops [MV 26 1,O1 27 (.load (some 7)) 7,O2 28 .callv 26 27,O1 29 (.un UnOp.not) 28]).seq (C.cond (.t 29) ((C.ops
 [MV 30 0,MV 31 5,O1 32 (.load (some 7)) 7,O2 33 (.idxA 7) 30 31,ST 7 33 32]).seq (C.ops [MV 34 5,BC 35 .add 34 (i6 1),MV 5 35])) C.skip)))).seq (C.ops [MV 20 6,BC 21 .add 20
 (i6 1),MV 6 21]))).loop)).seq ((C.ops [MV 36 0,MV 37 5,O2 38 (.slc 7 true false) 36 37,⟨none,none,.clr 7 [.str [],i6 0,i6 0,i6 0,.bool false,.bool false,.str []],[.t
 38]⟩]).seq ((C.ops [MV 39 0,MV 40 5,O2 41 (.slc 7 false true) 39 40,MV 4 41]).seq
 C.ret))))))
theorem qtK:qN Tryz.prog 59 42 2 [RV.tmp 4] qAy:=fi Tryz.f59 [4,7] qf8 []
end
section
open Go Go.Proofs AF
def qpw:List Nat:= []
def qAQ:C:=
 ((C.ops [ON 2 (.nilo 0 7 64) []]).seq (((C.ops [MV 3 0,O1 4 (.isnil .slice false) 3]).seq (C.cond (.t 4) ((C.ops [ON 2 (.nilo 0 7 64) []]).seq C.ret) C.skip)).seq ((C.ops [⟨some
 5,none,.bslc 1 7 0 64 [.str [],i6 0,i6 0,i6 0,.bool false,.bool false,.str []] [],[]⟩,MV 6 0,O2 7 (.app 2 7 64 64) 5 6,MV 2 7]).seq
 C.ret)))
theorem qyI:qN Tryz.prog 60 8 3 [RV.tmp 2] qAQ:=fi Tryz.f60 [2,5,7] qpw []
end
section
open Go Go.Proofs AF HY LN
namespace RC
def kZ (L:List Wd):List AV:=L.flatMap wdC
theorem qde (e:Wd):(wdC e).length=7:=rfl
theorem qcC (L:List Wd):(kZ L).length=L.length*7:=by
 unfold kZ
 induction L with
 |nil=>rfl
 |cons a L ih=>rw [List.flatMap_cons,List.length_append,ih,List.length_cons,qde];omega
theorem qhF (A B:List Wd):kZ (A++B)=kZ A++kZ B:=by simp [kZ]
theorem qrf (a:Wd):kZ [a]=wdC a:=by simp [kZ]
theorem qfG (L:List Wd): ∀i,(kZ L).take (i*7)=kZ (L.take i):=by
 induction L with
 |nil=>intro i;simp [kZ]
 |cons a L ih=>
  intro i
  cases i with
  |zero=>simp [kZ]
  |succ i=>
   have e:kZ (a::L)=wdC a++kZ L:=rfl
   rw [List.take_succ_cons,e,List.take_append,qde,show (i+1)*7-7=i*7 by omega,ih]
   rw [List.take_of_length_le (by rw [qde];omega)]
   rfl
theorem qfF (L:List Wd): ∀i,(kZ L).drop (i*7)=kZ (L.drop i):=by
 induction L with
 |nil=>intro i;simp [kZ]
 |cons a L ih=>
  intro i
  cases i with
  |zero=>simp
  |succ i=>
   have e:kZ (a::L)=wdC a++kZ L:=rfl
   rw [List.drop_succ_cons,e,List.drop_append,qde,show (i+1)*7-7=i*7 by omega,ih]
   rw [List.drop_eq_nil_of_le (by rw [qde];omega)]
   rfl
theorem qhG {L:List Wd} {i:Nat} (hi:i<L.length):((kZ L).drop (i*7)).take 7=wdC (L.getD i default):=by
 rw [qfF,List.drop_eq_getElem_cons hi,gdqA,qZ hi]
 rfl
theorem qrg {L:List Wd} {i:Nat} (e:Wd) (hi:i<L.length):(kZ L).take (i*7)++wdC e++(kZ L).drop (i*7+7)=kZ (L.set i e):=by
 rw [List.set_eq_take_append_cons_drop,if_pos hi,show i*7+7=(i+1)*7 by omega,qfG,qfF,qhF]
 rw [show e::List.drop (i+1) L= [e]++List.drop (i+1) L from rfl,qhF,qrf,List.append_assoc]
theorem qpl (L:List Wd):((List.range L.length).flatMap fun i=>wdC (L.getD i default))=kZ L:=by
 unfold kZ
 have e:L=(List.range L.length).map fun i=>L.getD i default:=by
  apply List.ext_getElem (by simp)
  intro i h1 h2
  simp [gdqA,h1]
 conv=>rhs;rw [e]
 rw [List.flatMap_map]
theorem qnl (h:List AObj) (L:List Wd):qw h (qK L)=some (L.length,kZ L):=by
 show some (L.length,_)=_
 rw [qpl]
theorem qhH (L:List Wd) (n:Nat): ∀c∈kZ L,lowV n c=true:=by
 intro c hc
 unfold kZ at hc
 obtain ⟨x,_,hx⟩:=List.mem_flatMap.1 hc
 simp only [wdC,List.mem_cons,List.not_mem_nil,or_false]at hx
 rcases hx with rfl|rfl|rfl|rfl|rfl|rfl|rfl<;>rfl
theorem qlQ {L:List Wd} (h:L≠ []):valP (.isnil .slice false) [qK L]= .bool false:=by
 unfold qK
 rw [qby,if_neg (by simpa using h)]
 rfl
theorem qA2 (h:List AObj):ACalls Tryz.prog 60 [qK []] h (qK []) h:=by
 have s1:=fun h=>qnl h []
 have z0:valP (.isnil .slice false) [qK []]= .anyb:=rfl
 have z1:okP (.isnil .slice false) [qK []]=True:=eq_true trivial
 have e0:kZ []= []:=rfl
 refine acO qyI ?_
 simp (disch:=omega) only [qAQ,s1,z0,z1,e0,go_sem]
 repeat' first
  |((first|apply qd|apply qb);exact rvk;simp only [go_sem];first|exact ql|apply qe|apply qa|apply qf|skip)
  |with_reducible first|apply aiA|intro _
 all_goals try exact clz
 ·exact kM
 ·rfl
 ·exact VLe.sl_eq rfl (fun i hi=>absurd hi (by simp))
theorem qDb (L:List Wd) (h:List AObj) (k:Nat) (hk:qI h k=true) (h0:L≠ []) (hl:L.length≤1000000):
  ACalls Tryz.prog 60 [qK L] h (.osl k (qu (qF k h)+1) 7 0 L.length) (setO k h (.mem (qu (qF k h)+1) 64 (kZ L))):=by
 have s1:=fun h=>qnl h L
 have eP:=qcC L
 have hp:=List.length_pos_iff.2 h0
 have z0:=qlQ h0
 have z1:okP (.isnil .slice false) [qK L]=True:=eq_true trivial
 refine qsh qyI k (by simp) ?_
 simp only [List.length_cons,List.length_nil,Nat.reduceAdd,Nat.reduceSub,List.replicate,List.cons_append,List.nil_append,List.append_nil]
 simp (disch:=omega) only [qAQ,s1,z0,z1,go_sem]
 repeat' first
  |(with_reducible apply aiA)
  |(with_reducible intro _)
 all_goals first
  |omega
  |contradiction
  |skip
 ·rfl
 exact ⟨h.length+1,2,7,0,L.length,64,kZ L,_,⟨trivial,trivial⟩,rfl,rfl,by omega,by simp only [go_sem],qhH L _,hk,rfl,rfl⟩
section
variable {q : Wd → Bool} {L : List Wd} {J : Nat}
def jC (q:Wd→Bool) (L:List Wd) (J:Nat):List Wd:=(L.take J).filter fun e=> !q e
def qdg (q:Wd→Bool) (L:List Wd) (J:Nat):List Wd:=jC q L J++L.drop (jC q L J).length
theorem qbn:(jC q L J).length≤J:=by
 unfold jC
 refine Nat.le_trans (List.length_filter_le _ _) ?_
 rw [List.length_take]
 exact Nat.min_le_left _ _
theorem qon (hJ:J≤L.length):(qdg q L J).length=L.length:=by
 have:=qbn (q:=q) (L:=L) (J:=J)
 unfold qdg
 rw [List.length_append,List.length_drop]
 omega
theorem qda (hJ:J<L.length):L.take (J+1)=L.take J++ [L.getD J default]:=by
 rw [List.take_add_one,qZ hJ,gdqA,qZ hJ]
 rfl
theorem qom (hJ:J<L.length):(qdg q L J).getD J default=L.getD J default:=by
 have:=qbn (q:=q) (L:=L) (J:=J)
 unfold qdg
 rw [gdqA,gdqA,List.getElem?_append_right this,List.getElem?_drop,Nat.add_sub_cancel' this]
theorem qe8 (hJ:J<L.length) (h:q (L.getD J default)=true):jC q L (J+1)=jC q L J:=by
 unfold jC
 rw [qda hJ,List.filter_append]
 simp only [List.filter_cons,h,Bool.not_true,Bool.false_eq_true,if_false,List.filter_nil,List.append_nil]
theorem qdD (hJ:J<L.length) (h:q (L.getD J default)=false):jC q L (J+1)=jC q L J++ [L.getD J default]:=by
 unfold jC
 rw [qda hJ,List.filter_append]
 simp only [List.filter_cons,h,Bool.not_false,if_true,List.filter_nil]
theorem qjy (hJ:J<L.length) (h:q (L.getD J default)=false):qdg q L (J+1)=(qdg q L J).set (jC q L J).length (L.getD J default):=by
 have:=qbn (q:=q) (L:=L) (J:=J)
 unfold qdg
 rw [qdD hJ h,List.length_append,List.set_append_right _ _ (Nat.le_refl _),Nat.sub_self]
 rw [show L.drop (jC q L J).length=L[(jC q L J).length]'(by omega)::L.drop ((jC q L J).length+1)from List.drop_eq_getElem_cons (by omega),List.set_cons_zero,List.append_assoc]
 rfl
theorem qlU (h: ∀j,j<J→q (L.getD j default)=false) (hJ:J≤L.length):jC q L J=L.take J:=by
 unfold jC
 rw [List.filter_eq_self]
 intro e he
 obtain ⟨j,hj,rfl⟩:=List.getElem_of_mem he
 rw [List.length_take]at hj
 have:=h j (by omega)
 rw [gdqA,qZ (by omega)]at this
 rw [List.getElem_take]
 simpa using this
theorem qoo (h: ∀j,j<J→q (L.getD j default)=false) (hJ:J<L.length) (hd:q (L.getD J default)=true):jC q L (J+1)=L.take J∧qdg q L (J+1)=L:=by
 have e:=(qe8 hJ hd).trans (qlU h (by omega))
 refine ⟨e,?_⟩
 unfold qdg
 rw [e,List.length_take,show min J L.length=J by omega,List.take_append_drop]
theorem qlT:jC q L L.length=L.filter fun e=> !q e:=by unfold jC;rw [List.take_length]
end
def zWd:List AV:= [.str [],.int .i64 0,.int .i64 0,.int .i64 0,.bool false,.bool false,.str []]
theorem qlY (m n:Nat): ∀c∈q9 zWd m,lowV n c=true:=by
 induction m with
 |zero=>intro c hc;cases hc
 |succ m ih=>
  intro c hc
  rcases List.mem_append.1 (show c∈zWd++q9 zWd m from hc)with hc|hc
  ·simp only [zWd,List.mem_cons,List.not_mem_nil,or_false]at hc
   rcases hc with rfl|rfl|rfl|rfl|rfl|rfl|rfl<;>rfl
  ·exact ih c hc
theorem qDg (L:List Wd) (q:Wd→Bool) (f:Nat) (y:Int) (p:Un) (j vj j2 v2 k v:Nat) (h:List AObj) (hk:qF k h=some (.mem v 64 (kZ L))) (hj:qF j h=some (.mem vj 3 [.int .i64 y])) (hj2:qF j2 h=some (.mem v2 83 (unC p))) (hjk:j≠k) (hjk2:j2≠k) (hl:L.length≤1000000)
  (hq: ∀e hh,ACalls Tryz.prog f [.agg (wdC e),.ip [.int .i64 y],.ip (unC p)] hh (.bool (q e)) hh):
  ACalls Tryz.prog 59 [.osl k v 7 0 L.length,.fn (.func f) [] [.op j vj 0,.op j2 v2 0]] h (.osl k v 7 0 (L.filter fun e=> !q e).length) (setO k h (.mem v 64 (kZ (L.filter fun e=> !q e)++q9 zWd (L.length-(L.filter fun e=> !q e).length)))):=by
 have hkl:=jg hk
 have hjl:=jg hj
 have cK:=qO hk
 have cJ:=qO hj
 have hjl2:=jg hj2
 have cJ2':=qO hj2
 have cix: ∀l,ACalls Tryz.prog 106 [.osl k v 7 0 L.length,.fn (.func f) [] [.op j vj 0,.op j2 v2 0]] (h++l) (.int .i64 (qad (fun i=>q (L.getD i default)) L.length 0)) (h++l):=by
  intro l
  have hk2:qF k (h++l)=_:=(jt hkl).trans hk
  have cJ2:cellsOf (h++l) j vj=_:=(qb0 hjl).trans cJ
  have cJ3:cellsOf (h++l) j2 v2=_:=(qb0 hjl2).trans cJ2'
  refine ACalls.borrow ?_ rfl
  have e:([AV.osl k v 7 0 L.length,.fn (.func f) [] [.op j vj 0,.op j2 v2 0]]).map (rei (fun _=>true) (h++l) 8)= [.sl L.length (fun i=>(((kZ L).drop (0+i*7)).take 7).map (rei (fun _=>true) (h++l) 7)),.fn (.func f) [] [.ip [.int .i64 y],.ip (unC p)]]:=by
   have h1:0+L.length*7≤(kZ L).length:=by rw [qcC];omega
   simp only [List.map_cons,List.map_nil,rei_osl,if_true,hk2,slOf_mem,true_and,h1,rei_fn,rei_op,cJ2,cJ3,ipOf_some,List.drop_zero,rei_int]
   rfl
  rw [e]
  refine ACalls.le (qaz qeV L.length (fun j=>wdC (L.getD j default)) (fun j=> .agg (wdC (L.getD j default))) f [] [.ip [.int .i64 y],.ip (unC p)] (fun i=>q (L.getD i default)) _ (fun i _=>⟨rfl,by simp [jj,wdC],rfl,rfl,rfl⟩) (fun i _=>hq _ _) (by omega)) ⟨VLe.sl_eq rfl (fun i hi=> ?_),ql,trivial⟩ (ql)
  rw [Nat.zero_add,qhG hi]
  rfl
 have e0:h=setO k h (.mem v 64 (kZ L)):=(qfs hk).symm
 have s1: ∀ {l w cs z},cellsOf (setO k h (.mem w 64 cs)++l) k z=if w=z then some cs else none:=qfV hkl
 have s2: ∀ {l o o'},setO k (setO k h o++l) o'=setO k h o'++l:=qqs hkl
 have s3: ∀ {l w cs z},jb (setO k h (.mem w 64 cs)++l) k z=decide (w=z):=qlV hkl
 have s4: ∀ {l o},qF k (setO k h o++l)=some o:=qd5 hkl
 have cl:=fun e hh (hx:qF j hh=some (.mem vj 3 [.int .i64 y])) (hx2:qF j2 hh=some (.mem v2 83 (unC p)))=>show ACalls Tryz.prog f [.agg (wdC e),.op j vj 0,.op j2 v2 0] hh (.bool (q e)) hh from by
  refine ACalls.borrow ?_ rfl
  have e2:([AV.agg (wdC e),.op j vj 0,.op j2 v2 0]).map (rei (fun _=>true) hh 8)= [.agg (wdC e),.ip [.int .i64 y],.ip (unC p)]:=by
   simp only [List.map_cons,List.map_nil,rei_op,if_true,qO hx,qO hx2,ipOf_some,List.drop_zero,rei_int,rei_agg]
   rfl
  rw [e2]
  exact hq _ _
 rcases zP (fun i=>q (L.getD i default)) L.length with ⟨i,h1,h2,h3,h4⟩|⟨h1,h2⟩
 ·rw [h4]at cix
  have k1:((i:Int)= -1)=False:=eq_false (by omega)
  refine acO qtK ?_
  simp (disch:=omega) only [qAy,k1,go_sem]
  repeat' first
   |((first|refine cA (cix _) ?_ ?_|refine cG (fun e=>cix _) ?_ ?_|refine cU (fun _=>cix _) ?_ ?_);exact flk;simp (disch:=omega) only [k1,go_sem])
   |((first|apply qd|apply qb);exact rvk;simp only [go_sem];first|exact ql|apply qe|apply qa|apply qf|skip)
   |with_reducible first|apply aiA|intro _
  all_goals try exact clz
  obtain ⟨p1,p2⟩:=qoo h3 h1 h2
  have cl2:=fun e o l=>cl e (setO k h o++l) (by rw [jt (by rw [jm];exact hjl),jQ hjk];exact hj) (by rw [jt (by rw [jm];exact hjl2),jQ hjk2];exact hj2)
  have tE:=fun e=>show List.take 7 (wdC e)=wdC e from rfl
  have lE:=fun e=>show (wdC e).length=7 from rfl
  have dE:=fun e=>show List.drop 7 (wdC e)= []from rfl
  have eT:(jC q L (i+1)).length=i:=by rw [p1,List.length_take];omega
  refine qt (T:=fun s:Nat×AObj=>qT 42 [(0,.osl k v 7 0 L.length),(1,.fn (.func f) [] [.op j vj 0,.op j2 v2 0]),(5,.int .i64 ((jC q L s.1).length:Nat)),(6,.int .i64 s.1)])
   (H:=fun s=>setO k h (.mem v 64 (kZ (qdg q L s.1)))++ [.emp 1,s.2])
   (inv:=fun s=>s.1≤L.length∧qI [s.2] 0=true∧(jC q L s.1).length<s.1) (m:=fun s=>L.length-s.1) (i+1,.emp 0) ⟨by simp only;omega,rfl,by simp only;omega⟩ ?_ ?_
  ·simp only [p2,eT]
   rw [←e0,show ((i+1:Nat):Int)=(i:Int)+1 by omega]
   refine Wk.temps ?_
   (simp only [go_sem,qk,qh,qg,qj];try (repeat' first|(with_reducible apply aiA)|(apply qe;omega)|(apply qa;rfl)|exact ql))
  rintro ⟨J,O⟩ ⟨i1,i2,i3⟩ K hK
  simp only at i1 i2 i3 hK
  have i2': ∀m,qI (O::m) 0=true:=fun _=>i2
  have hal:=qon (q:=q) i1
  have hkn:=qbn (q:=q) (L:=L) (J:=J)
  obtain ⟨m,hm⟩: ∃m,m=(jC q L J).length:=⟨_,rfl⟩
  rw [←hm]at hkn
  have em:=hm.symm
  by_cases hJ:J<L.length
  ·have q0:((J:Int)<L.length)=True:=eq_true (by omega)
   have gA:=qom (q:=q) hJ
   have gC:=qhG (L:=qdg q L J) (i:=J) (by omega)
   rw [gA]at gC
   have hEl:=qcC (qdg q L J)
   rw [hal]at hEl
   have f1:(J*7+7≤L.length*7)=True:=eq_true (by omega)
   have f2:(m*7+7≤L.length*7)=True:=eq_true (by omega)
   have f3:(J<L.length)=True:=eq_true hJ
   have f4:(m<L.length)=True:=eq_true (by omega)
   have f5:((m:Int)<L.length)=True:=eq_true (by omega)
   have hS:=qrg (L:=qdg q L J) (i:=m) (L.getD J default) (by omega)
   obtain ⟨e,he⟩: ∃e,e=L.getD J default:=⟨_,rfl⟩
   have ee:=he.symm
   rw [ee]at gC hS
   cases hqe:q e with
   |true=>
    simp (disch:=omega) only [q0,tE,lE,dE,s1,s2,s3,s4,hEl,f1,f2,f3,f4,f5,gC,i2',em,go_sem]
    repeat' first
     |(refine qx (cl2 _ _ _) ?_;simp (disch:=omega) only [q0,hqe,tE,lE,dE,hS,s1,s2,s3,s4,hEl,f1,f2,f3,f4,f5,gC,i2',em,go_sem])
     |((first|apply qd|apply qb);exact rvk;simp only [go_sem];first|exact ql|apply qe|apply qa|apply qf|skip)
     |with_reducible first|apply aiA|intro _
    all_goals try exact clz
    have kd:=qe8 hJ (ee▸hqe)
    have ad:qdg q L (J+1)=qdg q L J:=by unfold qdg;rw [kd]
    refine hK _ _ (J+1,.mem (qu (some O)+1) 64 (wdC e)) ⟨hJ,rfl,by simp only [kd];omega⟩ (by simp only;omega) ?_
    simp only [kd,ad,em]
    refine Wk.temps ?_
    (simp only [go_sem,qk,qh,qg,qj];try (repeat' first|(with_reducible apply aiA)|(apply qe;omega)|(apply qa;rfl)|exact ql))
   |false=>
    simp (disch:=omega) only [q0,tE,lE,dE,s1,s2,s3,s4,hEl,f1,f2,f3,f4,f5,gC,i2',em,go_sem]
    repeat' first
     |(refine qx (cl2 _ _ _) ?_;simp (disch:=omega) only [q0,hqe,tE,lE,dE,hS,s1,s2,s3,s4,hEl,f1,f2,f3,f4,f5,gC,i2',em,go_sem])
     |((first|apply qd|apply qb);exact rvk;simp only [go_sem];first|exact ql|apply qe|apply qa|apply qf|skip)
     |with_reducible first|apply aiA|intro _
    all_goals try exact clz
    have kd:=qdD hJ (ee▸hqe)
    have ad:=qjy hJ (ee▸hqe)
    have kl:(jC q L (J+1)).length=m+1:=by rw [kd,List.length_append,em];rfl
    rw [em,ee]at ad
    refine hK _ _ (J+1,.mem (qu (some O)+1) 64 (wdC e)) ⟨hJ,rfl,by simp only [kl];omega⟩ (by simp only;omega) ?_
    simp only [kl,ad]
    refine Wk.temps ?_
    (simp only [go_sem,qk,qh,qg,qj];try (repeat' first|(with_reducible apply aiA)|(apply qe;omega)|(apply qa;rfl)|exact ql))
  have q0:((J:Int)<L.length)=False:=eq_false (by omega)
  obtain rfl:J=L.length:=by omega
  have hA:qdg q L L.length=(jC q L L.length)++L.drop m:=by unfold qdg;rw [em]
  have hEl:=qcC (qdg q L L.length)
  rw [hal]at hEl
  have q1:((m:Int)=0∨(m:Int)<L.length)=True:=eq_true (.inr (by omega))
  have q2:(m*7+(L.length-m)*7≤L.length*7)=True:=eq_true (by omega)
  have q3:(m≤L.length)=True:=eq_true (by omega)
  have q4:m*7+(L.length-m)*7=L.length*7:=by omega
  have q5:((m:Int)≤L.length)=True:=eq_true (by omega)
  have d1:List.take (m*7) (kZ (qdg q L L.length))=kZ (jC q L L.length):=by
   rw [qfG,hA,hm,List.take_left]
  have d2:List.drop (L.length*7) (kZ (qdg q L L.length))= []:=List.drop_eq_nil_of_le (by omega)
  have zE:q9 [.str [],.int .i64 0,.int .i64 0,.int .i64 0,.bool false,.bool false,.str []]=q9 zWd:=rfl
  rw [em]
  simp (disch:=omega) only [q0,s1,s2,s3,s4,hEl,q1,q2,q3,q4,q5,d1,d2,zE,go_sem]
  repeat' first
   |((first|apply qd|apply qb);exact rvk;simp only [go_sem];first|exact ql|apply qe|apply qa|apply qf|skip)
   |with_reducible first|apply aiA|intro _
  all_goals try exact clz
  have eK:=qlT (q:=q) (L:=L)
  rw [hm,eK]
  refine qly (by simp only [go_sem]) jm (low_setO (fun n c hc=> ?_)) ⟨rfl,rfl⟩ ?_
  ·rcases List.mem_append.1 hc with hc|hc
   ·exact qhH _ n c hc
   ·exact qlY _ n c hc
  ·simp only [go_sem,Nat.sub_zero]
   rw [if_neg (by omega)]
   exact ql
 ·rw [h2]at cix
  have eF:(L.filter fun e=> !q e)=L:=by
   rw [List.filter_eq_self]
   intro e he
   obtain ⟨j,hj,rfl⟩:=List.getElem_of_mem he
   have:=h1 j hj
   simp only [gdqA,qZ hj,Option.getD_some]at this
   simp [this]
  have eM:q9 zWd (L.length-L.length)= []:=by rw [Nat.sub_self];rfl
  rw [eF,eM,List.append_nil,←e0]
  refine acO qtK ?_
  simp (disch:=omega) only [qAy,go_sem]
  repeat' first
   |((first|refine cA (cix _) ?_ ?_|refine cG (fun e=>cix _) ?_ ?_|refine cU (fun _=>cix _) ?_ ?_);exact flk;simp (disch:=omega) only [go_sem])
   |((first|apply qd|apply qb);exact rvk;simp only [go_sem];first|exact ql|apply qe|apply qa|apply qf|skip)
   |with_reducible first|apply aiA|intro _
  all_goals try exact clz
  rw [if_neg (by omega)]
  exact ql
theorem qA6 (f:Nat) (cap:List AV) (h:List AObj):ACalls Tryz.prog 59 [qK [],.fn (.func f) [] cap] h (qK []) h:=by
 have cix:=fun h=>qaz qeV 0 (fun j=>wdC (([]:List Wd).getD j default)) (fun j=> .agg (wdC (([]:List Wd).getD j default))) f [] cap (fun _=>false) h (fun i hi=>absurd hi (by omega)) (fun i hi=>absurd hi (by omega)) (by omega)
 have zz:qK []= .sl 0 fun j=>wdC (([]:List Wd).getD j default):=rfl
 have zi:qad (fun _=>false) 0 0= -1:=rfl
 simp only [zi]at cix
 rw [zz]
 refine acO qtK ?_
 simp (disch:=omega) only [qAy,go_sem]
 repeat' first
  |((first|refine cA (cix _) ?_ ?_|refine cG (fun e=>cix _) ?_ ?_|refine cU (fun _=>cix _) ?_ ?_);exact flk;simp (disch:=omega) only [go_sem])
  |((first|apply qd|apply qb);exact rvk;simp only [go_sem];first|exact ql|apply qe|apply qa|apply qf|skip)
  |with_reducible first|apply aiA|intro _
 all_goals try exact clz
theorem qDI (b:List Wd) (k:Int) (h:List AObj) (hn:b.length≤1000000):ACalls Tryz.prog 131 [qK b,.int .i64 k] h (strs (owG b k b.length)) h:=by
 refine acO qxJ ?_
 simp (disch:=omega) only [qwh,qK,go_sem]
 repeat' first
  |((first|apply qd|apply qb);exact rvk;simp only [go_sem];first|exact ql|apply qe|apply qa|apply qf|skip)
  |with_reducible first|apply aiA|intro _
 all_goals try exact clz
 refine qt (T:=fun s:Nat×Nat×AObj×AObj=>qT 25 [(1,.int .i64 k),(8,qK b),(9,.int .i64 b.length),(10,.int .i64 s.1),(5,.osl (h.length+1) s.2.1 1 0 (owG b k s.1).length)])
  (H:=fun s=>h++ [.emp 1,zZ s.2.1 9 (jv (owG b k s.1)),s.2.2.1,s.2.2.2,.emp 0])
  (inv:=fun s=>s.1≤b.length∧qI [s.2.2.1] 0=true∧qI [s.2.2.2] 0=true) (m:=fun s=>b.length-s.1) (0,1,.emp 0,.emp 0) ⟨Nat.zero_le _,rfl,rfl⟩ (Wk.temps ?_) ?_
 ·(simp only [qK,owG,go_sem,qk,qh,qg,qj];try (repeat' first|(with_reducible apply aiA)|(apply qe;omega)|(apply qa;rfl)|exact ql))
 rintro ⟨i,v,O1,O2⟩ ⟨i1,i2,i3⟩ K hK
 simp only at i1 i2 i3 hK
 have i2': ∀m,qI (O1::m) 0=true:=fun _=>i2
 have i3': ∀m,qI (O2::m) 0=true:=fun _=>i3
 have ol: ∀n,(owG b k n).length≤n:=by
  intro n
  induction n with
  |zero=>exact Nat.le_refl _
  |succ n ih=>
   unfold owG
   rw [List.length_append]
   split
   ·simp only [List.length_cons,List.length_nil];omega
   ·simp only [List.length_nil];omega
 have hol:=ol i
 by_cases hi:i<b.length
 ·have k1:((i:Int)<b.length)=True:=eq_true (by omega)
  have hS:owG b k (i+1)=owG b k i++if (b.getD i default).unit=k then [(b.getD i default).text] else []:=rfl
  obtain ⟨L,hL⟩: ∃L,L=owG b k i:=⟨_,rfl⟩
  rw [←hL]at hS hol ⊢
  obtain ⟨w,hw⟩: ∃w,w=b.getD i default:=⟨_,rfl⟩
  have ew:=hw.symm
  rw [ew]at hS
  have eC:=jT L
  have eTk:List.take L.length (jv L)=jv L:=List.take_of_length_le (by omega)
  by_cases g:w.unit=k
  ·have q1:(w.unit=k)=True:=eq_true g
   rw [if_pos g]at hS
   simp (disch:=omega) only [qK,wdC,k1,ew,i2',i3',q1,eC,eTk,Nat.mul_one,go_sem]
   repeat' first
    |((first|apply qd|apply qb);exact rvk;simp only [go_sem];first|exact ql|apply qe|apply qa|apply qf|skip)
    |with_reducible first|apply aiA|intro _
   all_goals try exact clz
   have eA:jv L++ [AV.str w.text]=jv (L++ [w.text]):=by simp [jv]
   have eD:(AV.str w.text::List.drop 1 (q9 [AV.str []] 1))= [AV.str w.text]:=rfl
   rw [eA,eD]
   refine hK _ _ (i+1,v+1,.mem (qu (some O1)+1) 64 (wdC w),.mem (qu (some O2)+1) 9 [.str w.text]) ⟨hi,rfl,rfl⟩ (by simp only;omega) ?_
   simp only [hS,wdC,List.length_append,List.length_cons,List.length_nil]
   refine Wk.temps ?_
   (simp only [qK,wdC,go_sem,qk,qh,qg,qj];try (repeat' first|(with_reducible apply aiA)|(apply qe;omega)|(apply qa;rfl)|exact ql))
  ·have q1:(w.unit=k)=False:=eq_false g
   rw [if_neg g,List.append_nil]at hS
   simp (disch:=omega) only [qK,wdC,k1,ew,i2',i3',q1,go_sem]
   repeat' first
    |((first|apply qd|apply qb);exact rvk;simp only [go_sem];first|exact ql|apply qe|apply qa|apply qf|skip)
    |with_reducible first|apply aiA|intro _
   all_goals try exact clz
   refine hK _ _ (i+1,v,.mem (qu (some O1)+1) 64 (wdC w),O2) ⟨hi,rfl,i3⟩ (by simp only;omega) ?_
   simp only [hS,wdC]
   refine Wk.temps ?_
   (simp only [qK,wdC,go_sem,qk,qh,qg,qj];try (repeat' first|(with_reducible apply aiA)|(apply qe;omega)|(apply qa;rfl)|exact ql))
 have k1:((i:Int)<b.length)=False:=eq_false (by omega)
 obtain rfl:i=b.length:=by omega
 simp (disch:=omega) only [k1,go_sem]
 repeat' first
  |((first|apply qd|apply qb);exact rvk;simp only [go_sem];first|exact ql|apply qe|apply qa|apply qf|skip)
  |with_reducible first|apply aiA|intro _
 all_goals try exact clz
 exact qcA (fun _=>rfl) rfl
theorem qC9 (x:Co) (l:List Un) (h:List AObj) (hz:qri x) (hu:qsf l) (hp:qba SG h) (h1:coE x=0) (h2:vaE x l=0):ACalls Tryz.prog 130 [.agg (coC x),qz l] h (.int .i64 0) h:=by
 have c1:=fun l'=>coP x (h++l') hz (hp.app l')
 have c2:=fun l'=>vaP x l (h++l') hz hu (hp.app l')
 simp only [h1]at c1
 simp only [h2]at c2
 unfold coC at c1 c2
 refine acO qxI ?_
 simp (disch:=omega) only [qwg,coC,go_sem]
 repeat' first
  |((first|refine cA (c1 _) ?_ ?_|refine cG (fun e=>c1 _) ?_ ?_|refine cA (c2 _) ?_ ?_|refine cG (fun e=>c2 _) ?_ ?_|refine cU (fun _=>c1 _) ?_ ?_|refine cU (fun _=>c2 _) ?_ ?_);exact flk;simp (disch:=omega) only [coC,go_sem])
  |((first|apply qd|apply qb);exact rvk;simp only [go_sem];first|exact ql|apply qe|apply qa|apply qf|skip)
  |with_reducible first|apply aiA|intro _
 all_goals try exact clz
theorem rdD (x:Co) (l:List Un) (b:List Wd) (u:Nat) (h:List AObj) (hz:qri x) (hu:qsf l) (hb:b.length≤1000000) (hp:qba SG h) (h1:coE x=0) (h2:vaE x l=0) (hul:u<l.length):ACalls Tryz.prog 58 [.agg (coC x),qz l,qK b,.int .i64 (u:Int)] h (.tup [strs (owG b u b.length),.int .i64 0]) h:=by
 have c1:=fun l'=>qC9 x l (h++l') hz hu (hp.app l') h1 h2
 have c2:=fun h=>qDI b (u:Int) h hb
 have hn:=hu.n
 have zu: ∀g,valL g .len [qz l]= .int .i64 l.length:=fun _=>rfl
 have zv: ∀g,okL g .len [qz l]=True:=fun _=>eq_true trivial
 have k1:((u:Int)<0)=False:=eq_false (by omega)
 have k2:((l.length:Int)≤u)=False:=eq_false (by omega)
 unfold coC at c1
 refine acO qBm ?_
 simp (disch:=omega) only [qCr,coC,zu,zv,k1,k2,go_sem]
 repeat' first
  |((first|refine cA (c1 _) ?_ ?_|refine cG (fun e=>c1 _) ?_ ?_|refine cA (c2 _) ?_ ?_|refine cG (fun e=>c2 _) ?_ ?_|refine cU (fun _=>c1 _) ?_ ?_|refine cU (fun _=>c2 _) ?_ ?_);exact flk;simp (disch:=omega) only [coC,zu,zv,k1,k2,go_sem])
  |((first|apply qd|apply qb);exact rvk;simp only [go_sem];first|exact ql|apply qe|apply qa|apply qf|skip)
  |with_reducible first|apply aiA|intro _
 all_goals try exact clz
theorem cm1 (w:Wd) (y:Int) (p:Un) (h:List AObj):ACalls Tryz.prog 61 [.agg (wdC w),.ip [.int .i64 y],.ip (unC p)] h (.bool (decide (w.unit=y)||decide (p.frm≤w.col))) h:=by
 by_cases g1:w.unit=y
 ·have k1:(w.unit=y)=True:=eq_true g1
  rw [decide_eq_true g1,Bool.true_or]
  refine acO qtL ?_
  simp (disch:=omega) only [qAz,wdC,unC,k1,go_sem]
  repeat' first
   |((first|apply qd|apply qb);exact rvk;simp only [go_sem];first|exact ql|apply qe|apply qa|apply qf|skip)
   |with_reducible first|apply aiA|intro _
  all_goals try exact clz
 ·have k1:(w.unit=y)=False:=eq_false g1
  rw [decide_eq_false g1,Bool.false_or]
  by_cases g2:p.frm≤w.col
  ·have k2:(p.frm≤w.col)=True:=eq_true g2
   rw [decide_eq_true g2]
   refine acO qtL ?_
   simp (disch:=omega) only [qAz,wdC,unC,k1,k2,go_sem]
   repeat' first
    |((first|apply qd|apply qb);exact rvk;simp only [go_sem];first|exact ql|apply qe|apply qa|apply qf|skip)
    |with_reducible first|apply aiA|intro _
   all_goals try exact clz
  ·have k2:(p.frm≤w.col)=False:=eq_false g2
   rw [decide_eq_false g2]
   refine acO qtL ?_
   simp (disch:=omega) only [qAz,wdC,unC,k1,k2,go_sem]
   repeat' first
    |((first|apply qd|apply qb);exact rvk;simp only [go_sem];first|exact ql|apply qe|apply qa|apply qf|skip)
    |with_reducible first|apply aiA|intro _
   all_goals try exact clz
theorem qxx {b:List Wd} {p:Wd→Bool}: ∀n,n≤b.length→((b.take n).filter p).length=cP (fun i=>p (b.getD i default)) n:=by
 intro n
 induction n with
 |zero=>intro _;rfl
 |succ n ih=>
  intro hn
  rw [qda (by omega),List.filter_append,List.length_append,ih (by omega)]
  show _=cP _ n+_
  cases hq:p (b.getD n default)
  ·simp only [List.filter_cons,hq,Bool.false_eq_true,if_false,List.filter_nil,List.length_nil]
  ·simp only [List.filter_cons,hq,if_true,List.filter_nil,List.length_cons,List.length_nil]
theorem qoD {p q:Nat→Bool}: ∀ {n:Nat},(∀i,i<n→p i=q i)→cP p n=cP q n:=by
 intro n
 induction n with
 |zero=>intro _;rfl
 |succ n ih=>
  intro h
  unfold cP
  rw [ih fun i hi=>h i (by omega),h n (Nat.lt_succ_self n)]
theorem qtN {a:Ap} (h:qn8 a.x a.l a.b) {u:Nat} (hu:u<a.l.length):(a.b.filter fun w=> !(decide (w.unit=(u:Int))||decide ((a.l.getD u default).frm≤w.col))).length=frK a u:=by
 have e:=qxx (b:=a.b) (p:=fun w=> !(decide (w.unit=(u:Int))||decide ((a.l.getD u default).frm≤w.col))) a.b.length (Nat.le_refl _)
 rw [List.take_length]at e
 rw [e]
 unfold frK
 obtain ⟨f1,f2,f3,f4⟩:=qaw h hu
 refine qoD fun i hi=> ?_
 unfold bfU
 by_cases g:(a.b.getD i default).col<(a.l.getD u default).frm
 ·rw [decide_eq_true g]
  have h1:=(f3 i hi).1 (decide_eq_true g)
  have h2: ¬(a.b.getD i default).unit=(u:Int):=fun e=>by
   have:=(f4 i hi).1 (decide_eq_true e)
   omega
  rw [decide_eq_false h2,decide_eq_false (by omega)]
  rfl
 ·rw [decide_eq_false g,decide_eq_true (show (a.l.getD u default).frm≤(a.b.getD i default).col by omega),Bool.or_true]
  rfl
theorem qD1 {a:Ap} (h:enE a=0):vaE a.x a.l=0:=by
 unfold enE at h
 split at h
 ·rename_i h1;exact absurd h h1
 rename_i h1
 have h2:=Classical.not_not.1 h1
 unfold pvE at h2
 split at h2
 ·rename_i h3;exact absurd h2 h3
 ·rename_i h3;exact Classical.not_not.1 h3
def spB (a:Ap) (u:Nat) (e:En):Bool:=decide (e.frm=(frK a u:Nat))&&decide (e.to=(toK a u:Nat))
theorem qxy {a:Ap} (h:qn8 a.x a.l a.b) {u:Nat} (hu:u<a.l.length): ∀n,n≤a.l.length→(enU a n).filter (spB a u)=if u<n then enY a u a.lay.length else []:=by
 intro n
 induction n with
 |zero=>intro _;rfl
 |succ n ih=>
  intro hn
  unfold enU
  rw [List.filter_append,ih (by omega)]
  have hall: ∀e∈enY a n a.lay.length,spB a u e=decide (n=u):=fun e he=>by
   obtain ⟨y,_,_,rfl⟩:=qle.1 he
   show (decide (((frK a n:Nat):Int)=(frK a u:Nat))&&decide (((toK a n:Nat):Int)=(toK a u:Nat)))=decide (n=u)
   rw [←Bool.decide_and]
   refine decide_eq_decide.2 ⟨fun hc=>(qdQ h (by omega) hu).1 ⟨by omega,by omega⟩,fun hc=>by subst hc;exact ⟨rfl,rfl⟩⟩
  by_cases e:n=u
  ·subst e
   rw [if_neg (Nat.lt_irrefl _),if_pos (Nat.lt_succ_self _),List.nil_append,List.filter_eq_self.2 fun e he=>by rw [hall e he];simp]
  ·rw [List.filter_eq_nil_iff.2 fun e' he=>by rw [hall e' he];simpa using e,List.append_nil]
   by_cases hl:u<n
   ·rw [if_pos hl,if_pos (by omega)]
   ·rw [if_neg hl,if_neg (by omega)]
theorem qxw {a:Ap} (hE:enE a=0) {u:Nat} (hu:u<a.l.length):(enR a).filter (spB a u)=enY a u a.lay.length:=by
 unfold enR
 rw [if_pos hE,qxy (qb1 hE).1 hu _ (Nat.le_refl _),if_pos hu]
def qa8 (a:Ap):Nat→Nat
 |0=>0
 |u+1=>qa8 a u+((enR a).filter (spB a u)).length
theorem qq1 {a:Ap} (hE:enE a=0):qa8 a a.l.length=(enR a).length:=by
 have key: ∀n,n≤a.l.length→qa8 a n=(enU a n).length:=by
  intro n
  induction n with
  |zero=>intro _;rfl
  |succ n ih=>
   intro hn
   show qa8 a n+_=_
   rw [ih (by omega),qxw hE (by omega)]
   show _=(enU a n++enY a n a.lay.length).length
   rw [List.length_append]
 rw [key _ (Nat.le_refl _)]
 unfold enR
 rw [if_pos hE]
def nmS (a:Ap) (s:Nat) (e:En):Bool:=decide ((s:Int)∈vsL a.x.sig a.gs e)
theorem qBJ {a:Ap} (hE:enE a=0) {u y s:Nat} (hu:u<a.l.length) (hs:s<a.x.sig.length) {j:Nat} (hj:qix (a.l.getD u default).rds s=(j:Nat)):nmS a s (enK a u y)=(decide (lyN a.lay ((a.cls.getD u []).getD j [])=y)&& !decide (((a.l.getD u default).rds.getD j default).words=qeC a u)):=by
 obtain ⟨h,_,_⟩:=qb1 hE
 have hp:=qmD h.un hu
 obtain ⟨i,i0,i1,i2,_,i4⟩:=qc7 hp.has hp.inv hs
 have e:i=j:=by omega
 subst e
 unfold nmS
 rw [decide_eq_decide.2 (qz4 hE hu)]
 by_cases hc:lyN a.lay ((a.cls.getD u []).getD i [])=y∧((a.l.getD u default).rds.getD i default).words≠qeC a u
 ·rw [decide_eq_true ⟨i,qai.2 ⟨i1,hc⟩,i2⟩,decide_eq_true hc.1,decide_eq_false hc.2]
  rfl
 ·rw [decide_eq_false]
  ·by_cases h1:lyN a.lay ((a.cls.getD u []).getD i [])=y
   ·rw [decide_eq_true (show ((a.l.getD u default).rds.getD i default).words=qeC a u from Classical.byContradiction fun h2=>hc ⟨h1,h2⟩)]
    simp
   ·rw [decide_eq_false h1];rfl
  ·rintro ⟨r,hr,hx⟩
   have hm:=qai.1 hr
   have:=(i4 r hm.1).1 hx
   subst this
   exact hc hm.2
theorem qxe {a:Ap} (hE:enE a=0) {u s:Nat} (hu:u<a.l.length) (hs:s<a.x.sig.length) {j:Nat} (hj:qix (a.l.getD u default).rds s=(j:Nat)): ∀n,((enY a u n).filter (nmS a s)).length=if lyN a.lay ((a.cls.getD u []).getD j [])<n∧0≤lyN a.lay ((a.cls.getD u []).getD j [])∧((a.l.getD u default).rds.getD j default).words≠qeC a u then 1 else 0:=by
 intro n
 induction n with
 |zero=>rw [if_neg (by omega)];rfl
 |succ n ih=>
  unfold enY
  rw [List.filter_append,List.length_append]
  have hn:=qBJ hE (y:=n) hu hs hj
  by_cases h2:((a.l.getD u default).rds.getD j default).words=qeC a u
  ·have i1:=ih.trans (if_neg (fun hc=>hc.2.2 h2))
   refine Eq.trans ?_ (if_neg (fun hc=>hc.2.2 h2)).symm
   rw [decide_eq_true h2]at hn
   rw [i1,Nat.zero_add]
   split
   ·rfl
   ·rw [List.filter_cons_of_neg (by rw [hn];simp)];rfl
  ·by_cases h1:lyN a.lay ((a.cls.getD u []).getD j [])=n
   ·have i1:=ih.trans (if_neg (fun hc=>by have:=hc.1;omega))
    refine Eq.trans ?_ (if_pos ⟨by omega,by omega,h2⟩).symm
    have hv:vrK a u n≠ []:=fun e=>by
     have hl:=qex a u n
     rw [e,List.length_nil]at hl
     obtain ⟨h,_,_⟩:=qb1 hE
     have hp:=qmD h.un hu
     obtain ⟨i,i0,i1,_⟩:=qc7 hp.has hp.inv hs
     have e':i=j:=by omega
     subst e'
     have hm:i∈vrI a u n (a.l.getD u default).rds.length:=qai.2 ⟨i1,h1,h2⟩
     rw [List.eq_nil_of_length_eq_zero hl.symm]at hm
     cases hm
    rw [i1,if_neg hv,List.filter_cons_of_pos (by rw [hn,decide_eq_true h1,decide_eq_false h2];rfl)]
    rfl
   ·have h0:((if vrK a u n= [] then [] else [enK a u n]).filter (nmS a s)).length=0:=by
     split
     ·rfl
     ·rw [List.filter_cons_of_neg (by rw [hn,decide_eq_false h1];simp)];rfl
    rw [h0,Nat.add_zero]
    by_cases h3:lyN a.lay ((a.cls.getD u []).getD j [])<n∧0≤lyN a.lay ((a.cls.getD u []).getD j [])
    ·exact (ih.trans (if_pos ⟨h3.1,h3.2,h2⟩)).trans (if_pos ⟨by have:=h3.1;omega,h3.2,h2⟩).symm
    ·exact (ih.trans (if_neg (fun hc=>h3 ⟨hc.1,hc.2.1⟩))).trans (if_neg (fun hc=>h3 ⟨by have:=hc.1;omega,hc.2.1⟩)).symm
theorem qA3 {a:Ap} (hE:enE a=0) {u s:Nat} (hu:u<a.l.length) (hs:s<a.x.sig.length) {j:Nat} (hj:qix (a.l.getD u default).rds s=(j:Nat)):(((enR a).filter (spB a u)).filter (nmS a s)).length=if ((a.l.getD u default).rds.getD j default).words=qeC a u then 0 else 1:=by
 have hl:=qzf (qb1 hE).2.2.1
 obtain ⟨l0,l1⟩:=qt8 hl.1 ((a.cls.getD u []).getD j [])
 rw [qxw hE hu,qxe hE hu hs hj]
 by_cases h2:((a.l.getD u default).rds.getD j default).words=qeC a u
 ·rw [if_neg (fun hc=>hc.2.2 h2),if_pos h2]
 ·rw [if_pos ⟨l1,l0,h2⟩,if_neg h2]
def iM (m:List (Int×Int)):List (AV×AV):=m.map fun p=>(.int .i64 p.1,.int .i64 p.2)
def qjp:List (Int×Int)→Int→Int→List (Int×Int)
 | [],s,v=> [(s,v)]
 |(k,w)::r,s,v=>if s=k then (s,v)::r else (k,w)::qjp r s v
def qdf:List (Int×Int)→Int→Int
 | [],_=>0
 |(k,w)::r,s=>if s=k then w else qdf r s
theorem qlJ (m:List (Int×Int)) (s v r:Int):qdf (qjp m s v) r=if r=s then v else qdf m r:=by
 induction m with
 |nil=>
  show (if r=s then v else 0)=_
  rfl
 |cons p m ih=>
  obtain ⟨k,w⟩:=p
  unfold qjp
  by_cases h:s=k
  ·rw [if_pos h]
   show (if r=s then v else qdf m r)=if r=s then v else (if r=k then w else qdf m r)
   subst h
   by_cases h2:r=s
   ·rw [if_pos h2,if_pos h2]
   ·rw [if_neg h2,if_neg h2,if_neg h2]
  ·rw [if_neg h]
   show (if r=k then w else qdf (qjp m s v) r)=if r=s then v else (if r=k then w else qdf m r)
   rw [ih]
   by_cases h2:r=k
   ·subst h2
    rw [if_pos rfl,if_neg (fun e=>h e.symm),if_pos rfl]
   ·rw [if_neg h2,if_neg h2]
theorem qed (s:Int): ∀(m:List (Int×Int)) (i:Nat),(qao .int (.int .i64 s) (iM m) i=some none∧qdf m s=0∧ ∀v,iM m++ [(.int .i64 s,.int .i64 v)]=iM (qjp m s v))∨
  ∃n,qao .int (.int .i64 s) (iM m) i=some (some (i+n,.int .i64 (qdf m s)))∧ ∀v,(iM m).set n (.int .i64 s,.int .i64 v)=iM (qjp m s v):=by
 intro m
 induction m with
 |nil=>intro i;exact .inl ⟨rfl,rfl,fun _=>rfl⟩
 |cons p m ih=>
  intro i
  obtain ⟨k,w⟩:=p
  have e:qao .int (.int .i64 s) (iM ((k,w)::m)) i=match (some (decide (s=k)):Option Bool)with
   |some true=>some (some (i,AV.int .i64 w))
   |some false=>qao .int (.int .i64 s) (iM m) (i+1)
   |none=>none:=rfl
  by_cases h:s=k
  ·subst h
   rw [e,decide_eq_true rfl]
   have e1:qdf ((s,w)::m) s=w:=by show (if s=s then w else _)=w;rw [if_pos rfl]
   refine .inr ⟨0,by rw [e1];rfl,fun v=> ?_⟩
   unfold qjp
   rw [if_pos rfl]
   rfl
  ·rw [e,decide_eq_false h]
   have e1:qdf ((k,w)::m) s=qdf m s:=by show (if s=k then w else _)=_;rw [if_neg h]
   have e2: ∀v,qjp ((k,w)::m) s v=(k,w)::qjp m s v:=fun v=>by unfold qjp;rw [if_neg h];cases m<;>rfl
   rcases ih (i+1)with ⟨h1,h2,h3⟩|⟨n,h1,h2⟩
   ·exact .inl ⟨h1,by rw [e1];exact h2,fun v=>by rw [e2];show _::(iM m++_)=_::iM _;rw [h3]⟩
   ·exact .inr ⟨n+1,by rw [e1,show i+(n+1)=i+1+n by omega];exact h1,fun v=>by rw [e2];show _::(iM m).set n _=_::iM _;rw [h2]⟩
theorem qy4 (m:List (Int×Int)) (s:Int):(qao .int (.int .i64 s) (iM m) 0).isSome=true:=by
 rcases qed s m 0 with ⟨h,_⟩|⟨n,h,_⟩<;>rw [h]<;>rfl
theorem qrS (m:List (Int×Int)) (s:Int):(qfc .int (.int .i64 s) (.int .i64 0) (iM m)).1= .int .i64 (qdf m s):=by
 unfold qfc
 rcases qed s m 0 with ⟨h,h2,_⟩|⟨n,h,_⟩
 ·rw [h,h2]
 ·rw [h]
theorem qy5 (m:List (Int×Int)) (s v:Int):qpH .int (.int .i64 s) (.int .i64 v) (iM m)=iM (qjp m s v):=by
 unfold qpH
 rcases qed s m 0 with ⟨h,_,h2⟩|⟨n,h,h2⟩
 ·rw [h];exact h2 v
 ·rw [h,Nat.zero_add];exact h2 v
theorem qBK {a:Ap} (hE:enE a=0) {u:Nat} (hu:u<a.l.length) {e:En} (he:e∈enR a) (hs:spB a u e=true):
  vsE a.x.sig a.gs e=0∧ ∀x∈vsL a.x.sig a.gs e,∃r s:Nat,x=(s:Int)∧s<a.x.sig.length∧qix (a.l.getD u default).rds x=(r:Int)∧r<(a.l.getD u default).rds.length∧lyN a.lay ((a.cls.getD u []).getD r [])=e.layer:=by
 obtain ⟨k,hk,y,_,_,rfl⟩:=(qld hE).1 he
 obtain ⟨h,hsg,_⟩:=qb1 hE
 unfold spB at hs
 rw [Bool.and_eq_true]at hs
 have h1:=of_decide_eq_true hs.1
 have h2:=of_decide_eq_true hs.2
 have hku:k=u:=(qdQ h hk hu).1 ⟨by have:((frK a k:Nat):Int)=(frK a u:Nat):=h1;omega,by have:((toK a k:Nat):Int)=(toK a u:Nat):=h2;omega⟩
 subst hku
 have hp:=qmD h.un hk
 refine ⟨(qsb (e:=enK a k y) hsg (fun j hj=>qxt hp hsg hj) (fun i j hij hj x hx=>qg0 hp hsg hij hj hx)).1,fun x hx=> ?_⟩
 obtain ⟨r,hr,hxr⟩:=(qz4 hE hk).1 hx
 obtain ⟨r1,r2,_⟩:=qai.1 hr
 obtain ⟨b1,b2⟩:=(hp.inv.src _ (qcV r1)).2 x hxr
 obtain ⟨s,rfl⟩: ∃s:Nat,x=(s:Int):=⟨x.toNat,by omega⟩
 obtain ⟨j,j1,j2,_,_,j5⟩:=qc7 hp.has hp.inv (s:=s) (by omega)
 have hrj:=(j5 r r1).1 hxr
 subst hrj
 exact ⟨r,s,rfl,by omega,j1,j2,r2⟩
theorem qz2 (names:List Str) (gs:List Gr) (e:En):(vsL names gs e).Pairwise (· < ·):=by
 unfold vsL
 split
 ·exact qeb _ _
 ·exact List.Pairwise.nil
theorem qxf {L:List Int} (h:L.Pairwise (· < ·)) (x:Int):L.count x=if x∈L then 1 else 0:=by
 induction L with
 |nil=>rfl
 |cons a L ih=>
  obtain ⟨h1,h2⟩:=List.pairwise_cons.1 h
  by_cases e:a=x
  ·subst e
   have: ¬a∈L:=fun hm=>by have:=h1 a hm;omega
   rw [List.count_cons_self,ih h2,if_neg this,if_pos (List.mem_cons_self)]
  ·rw [List.count_cons_of_ne e,ih h2]
   by_cases hm:x∈L
   ·rw [if_pos hm,if_pos (List.mem_cons_of_mem _ hm)]
   ·rw [if_neg hm,if_neg (fun hc=>by rcases List.mem_cons.1 hc with h3|h3;exact e h3.symm;exact hm h3)]
end RC
end
