import Derived.Test.YtgoandblgcjleaaGreatDoorK12
import Derived.Test.YtgoandblgcjleaaGreatDoorK10
import Derived.Test.YtgoandblgcjleaaGreatDoorK8
import Derived.Test.YtgoandblgcjleaaGreatDoorK7
import Derived.Test.YtgoandblgcjleaaGreatDoorK9
import Derived.Test.YtgoandblgcjleaaGreatDoorK2
import Derived.Test.YtgoandblgcjleaaGreatDoorK4
import Derived.Test.YtgoandblgcjleaaGreatDoorProg
import Derived.Test.YtgoandblgcjleaaGreatDoorK11
set_option linter.all false
set_option linter.unusedSimpArgs false
set_option linter.unusedVariables false
set_option linter.unusedSectionVars false
set_option maxRecDepth 100000
section
open Go Go.Proofs AF HY LN
namespace RC
set_option maxHeartbeats 32000000
structure ES where
 i:Nat
 v:Nat
 O6:AObj
 O7:AObj
 O8:AObj
 O9:AObj
 e10:Nat
 O11:AObj
 O12:AObj
 O13:AObj
 e14:Nat
 O15:AObj
theorem qfK (L:List Va) (n:Nat): ∀c∈qcs L,zQ n c=true:=by
 intro c hc
 unfold qcs at hc
 obtain ⟨x,_,hx⟩:=List.mem_flatMap.1 hc
 simp only [vaC,List.mem_cons,List.not_mem_nil,or_false]at hx
 rcases hx with rfl|rfl<;>rfl
theorem qqV (a:Ap) (k y:Nat):(enU a k++enY a k y).length≤k*a.lay.length+y:=by
 have h1: ∀k n,(enY a k n).length≤n:=by
  intro k n
  induction n with
  |zero=>exact Nat.le_refl _
  |succ n ih=>
   show (enY a k n++if vrK a k n= [] then [] else [enK a k n]).length≤_
   rw [List.length_append]
   split
   ·simp only [List.length_nil];omega
   ·simp only [List.length_cons,List.length_nil];omega
 have h2: ∀n,(enU a n).length≤n*a.lay.length:=by
  intro n
  induction n with
  |zero=>exact Nat.zero_le _
  |succ n ih=>
   show (enU a n++enY a n a.lay.length).length≤_
   rw [List.length_append,Nat.add_mul,Nat.one_mul]
   have:=h1 n a.lay.length
   omega
 rw [List.length_append]
 have:=h1 k y
 have:=h2 k
 omega
structure EY where
 y:Nat
 v:Nat
 O11:AObj
 O12:AObj
 O13:AObj
 e14:Nat
 O15:AObj
theorem qzA (a:Ap) (h:List AObj) (hz:qxl a) (hp:qaZ SG h):
  ACalls Tryz.prog 96 [.agg (coC a.x),qI a.l,jX a.cls,qN a.b,zj a.gs,strs a.lay,jV a.pos] h (.tup [qbh (enR a),.int .i64 (enE a)]) h:=by
 have hsz:=qvo hz.g42
 have z1:=hz.l12
 have z2:=hz.b14
 have z3:=hz.y18
 have z4:=hz.p20
 have z5:=hz.c12
 have c38:=fun l'=>pvP a.x a.l a.b (h++l') hz.co hz.un (by omega) (fun i=>by have:=hz.bt i;omega) (hp.app l')
 have c122:=fun h=>sgP a.x.sig a.gs h hsz
 have c27:=fun h=>lyP a.lay [] h (by omega) (fun i=>by have:=hz.yl i;omega)
 have nl0:VLe AV.nl (qbh []):=kj
 obtain ⟨R,hR⟩: ∃R,R=enR a:=⟨_,rfl⟩
 obtain ⟨E,hE⟩: ∃E,E=enE a:=⟨_,rfl⟩
 rw [←hR,←hE]
 unfold enR at hR
 rw [←hE]at hR
 unfold enE at hE
 unfold coC qI qN strs at c38
 unfold strs at c122 c27
 by_cases g1:pvE a.x a.l a.b=0
 case neg=>
  have k1:(pvE a.x a.l a.b=0)=False:=eq_false g1
  rw [if_pos g1]at hE
  rw [hE,if_neg g1]at hR
  rw [hR,hE]
  refine acO qgl ?_
  simp (disch:=omega) only [qqr,List.replicate,coC,qI,jX,strs,jV,qN,k1,go_sem]
  repeat' first
   |((first|refine cA (c38 _) ?_ ?_|refine cG (fun e=>c38 _) ?_ ?_|refine cU (fun _=>c38 _) ?_ ?_);(next=>exact flk);simp (disch:=omega) only [coC,qI,jX,strs,jV,qN,k1,go_sem])
   |((first|apply qd|apply qb);exact rvk;simp only [go_sem];first|exact VLe.refl _|apply qe|apply qa|apply qf|skip)
   |with_reducible first|apply And.intro|intro _
  all_goals try exact clz
  exact jW ⟨nl0,VLe.refl _,trivial⟩
 rw [if_neg (fun hc=>hc g1)]at hE
 rw [g1]at c38
 by_cases g2:sgE a.x.sig a.gs=0
 case neg=>
  have k2:(sgE a.x.sig a.gs=0)=False:=eq_false g2
  rw [if_pos g2]at hE
  rw [hE,if_neg (by decide)]at hR
  rw [hR,hE]
  refine acO qgl ?_
  simp (disch:=omega) only [qqr,List.replicate,coC,qI,jX,strs,jV,qN,k2,go_sem]
  repeat' first
   |((first|refine cA (c38 _) ?_ ?_|refine cG (fun e=>c38 _) ?_ ?_|refine cA (c122 _) ?_ ?_|refine cG (fun e=>c122 _) ?_ ?_|refine cU (fun _=>c38 _) ?_ ?_|refine cU (fun _=>c122 _) ?_ ?_);(next=>exact flk);simp (disch:=omega) only [coC,qI,jX,strs,jV,qN,k2,go_sem])
   |((first|apply qd|apply qb);exact rvk;simp only [go_sem];first|exact VLe.refl _|apply qe|apply qa|apply qf|skip)
   |with_reducible first|apply And.intro|intro _
  all_goals try exact clz
  exact jW ⟨nl0,VLe.refl _,trivial⟩
 rw [if_neg (fun hc=>hc g2)]at hE
 rw [g2]at c122
 by_cases g3:lyE a.lay=0
 case neg=>
  have k3:(lyE a.lay=0)=False:=eq_false g3
  rw [if_pos g3]at hE
  rw [hE,if_neg g3]at hR
  rw [hR,hE]
  refine acO qgl ?_
  simp (disch:=omega) only [qqr,List.replicate,coC,qI,jX,strs,jV,qN,k3,go_sem]
  repeat' first
   |((first|refine cA (c38 _) ?_ ?_|refine cG (fun e=>c38 _) ?_ ?_|refine cA (c122 _) ?_ ?_|refine cG (fun e=>c122 _) ?_ ?_|refine cA (c27 _) ?_ ?_|refine cG (fun e=>c27 _) ?_ ?_|refine cU (fun _=>c38 _) ?_ ?_|refine cU (fun _=>c122 _) ?_ ?_|refine cU (fun _=>c27 _) ?_ ?_);(next=>exact flk);simp (disch:=omega) only [coC,qI,jX,strs,jV,qN,k3,go_sem])
   |((first|apply qd|apply qb);exact rvk;simp only [go_sem];first|exact VLe.refl _|apply qe|apply qa|apply qf|skip)
   |with_reducible first|apply And.intro|intro _
  all_goals try exact clz
  exact jW ⟨nl0,VLe.refl _,trivial⟩
 rw [if_neg (fun hc=>hc g3)]at hE
 rw [g3]at c27
 by_cases g4:a.pos.length=a.lay.length
 case neg=>
  have k4:((a.pos.length:Int)=a.lay.length)=False:=eq_false (by omega)
  rw [if_pos (.inl g4)]at hE
  rw [hE,if_neg (by decide)]at hR
  rw [hR,hE]
  refine acO qgl ?_
  simp (disch:=omega) only [qqr,List.replicate,coC,qI,jX,strs,jV,qN,k4,go_sem]
  repeat' first
   |((first|refine cA (c38 _) ?_ ?_|refine cG (fun e=>c38 _) ?_ ?_|refine cA (c122 _) ?_ ?_|refine cG (fun e=>c122 _) ?_ ?_|refine cA (c27 _) ?_ ?_|refine cG (fun e=>c27 _) ?_ ?_|refine cU (fun _=>c38 _) ?_ ?_|refine cU (fun _=>c122 _) ?_ ?_|refine cU (fun _=>c27 _) ?_ ?_);(next=>exact flk);simp (disch:=omega) only [coC,qI,jX,strs,jV,qN,k4,go_sem])
   |((first|apply qd|apply qb);exact rvk;simp only [go_sem];first|exact VLe.refl _|apply qe|apply qa|apply qf|skip)
   |with_reducible first|apply And.intro|intro _
  all_goals try exact clz
  exact jW ⟨nl0,VLe.refl _,trivial⟩
 have k4:((a.pos.length:Int)=a.lay.length)=True:=eq_true (by omega)
 by_cases g5:a.cls.length=a.l.length
 case neg=>
  have k5:((a.cls.length:Int)=a.l.length)=False:=eq_false (by omega)
  rw [if_pos (.inr g5)]at hE
  rw [hE,if_neg (by decide)]at hR
  rw [hR,hE]
  refine acO qgl ?_
  simp (disch:=omega) only [qqr,List.replicate,coC,qI,jX,strs,jV,qN,k4,k5,go_sem]
  repeat' first
   |((first|refine cA (c38 _) ?_ ?_|refine cG (fun e=>c38 _) ?_ ?_|refine cA (c122 _) ?_ ?_|refine cG (fun e=>c122 _) ?_ ?_|refine cA (c27 _) ?_ ?_|refine cG (fun e=>c27 _) ?_ ?_|refine cU (fun _=>c38 _) ?_ ?_|refine cU (fun _=>c122 _) ?_ ?_|refine cU (fun _=>c27 _) ?_ ?_);(next=>exact flk);simp (disch:=omega) only [coC,qI,jX,strs,jV,qN,k4,k5,go_sem])
   |((first|apply qd|apply qb);exact rvk;simp only [go_sem];first|exact VLe.refl _|apply qe|apply qa|apply qf|skip)
   |with_reducible first|apply And.intro|intro _
  all_goals try exact clz
  exact jW ⟨nl0,VLe.refl _,trivial⟩
 have k5:((a.cls.length:Int)=a.l.length)=True:=eq_true (by omega)
 rw [if_neg (by rintro (h|h)<;>contradiction)]at hE
 refine acO qgl ?_
 simp (disch:=omega) only [qqr,List.replicate,coC,qI,jX,strs,jV,qN,k4,k5,go_sem]
 repeat' first
  |((first|refine cA (c38 _) ?_ ?_|refine cG (fun e=>c38 _) ?_ ?_|refine cA (c122 _) ?_ ?_|refine cG (fun e=>c122 _) ?_ ?_|refine cA (c27 _) ?_ ?_|refine cG (fun e=>c27 _) ?_ ?_|refine cU (fun _=>c38 _) ?_ ?_|refine cU (fun _=>c122 _) ?_ ?_|refine cU (fun _=>c27 _) ?_ ?_);(next=>exact flk);simp (disch:=omega) only [coC,qI,jX,strs,jV,qN,k4,k5,go_sem])
  |((first|apply qd|apply qb);exact rvk;simp only [go_sem];first|exact VLe.refl _|apply qe|apply qa|apply qf|skip)
  |with_reducible first|apply And.intro|intro _
 all_goals try exact clz
 have vv:(∀j,j<a.l.length→(a.cls.getD j []).length=(a.l.getD j default).rds.length)→E=0:=fun hx=>by
  rw [hE,qq.2 (fun j hj=>by rw [decide_eq_true (hx j hj)];rfl),if_neg (by simp)]
 refine qv (T:=fun i:Nat×AObj=>qQ 200 [(1,qI a.l),(2,jX a.cls),(3,qN a.b),(5,strs a.lay),(6,jV a.pos),(7,.op h.length 1 0),(11,.op (h.length+1) 1 0),(14,.op (h.length+2) 1 0),(15,.op (h.length+3) 1 0),(69,qI a.l),(70,.int .i64 a.l.length),(71,.int .i64 i.1)])
  (H:=fun i=>h++ [.mem 1 26 (coC a.x),.mem 1 44 [zj a.gs],.mem 1 49 [.nl],.mem 1 35 [.int .i64 0],i.2,.emp 0,.emp 0,.emp 0,.emp 0,.emp 0,.emp 0,.emp 0,.emp 0,.emp 0,.emp 0,.emp 0,.emp 0])
  (inv:=fun i=>i.1≤a.l.length∧qE [i.2] 0=true∧ ∀j,j<i.1→(a.cls.getD j []).length=(a.l.getD j default).rds.length) (m:=fun i=>a.l.length-i.1) (0,.emp 0) ⟨Nat.zero_le _,rfl,fun j hj=>absurd hj (Nat.not_lt_zero j)⟩ (Wk.temps ?_) ?_
 ·(simp only [qI,jX,qN,strs,jV,List.replicate,go_sem,qk,qi,qg,qj];try (repeat' first|(with_reducible apply And.intro)|(apply qe;omega)|(apply qa;rfl)|exact VLe.refl _))
 rintro ⟨i,O4⟩ ⟨i1,i2,i3⟩ K hK
 simp only at i1 i2 i3 hK
 have i2': ∀m,qE (O4::m) 0=true:=fun _=>i2
 by_cases hi:i<a.l.length
 ·have k6:((i:Int)<a.l.length)=True:=eq_true (by omega)
  have k7:((i:Int)<a.cls.length)=True:=eq_true (by omega)
  have hbad: ¬(a.cls.getD i []).length=(a.l.getD i default).rds.length→E=9:=fun hx=>by
   rw [hE,qM.2 ⟨i,hi,by rw [decide_eq_false hx];rfl⟩,if_pos rfl]
  have hS:(a.cls.getD i []).length=(a.l.getD i default).rds.length→ ∀j,j<i+1→(a.cls.getD j []).length=(a.l.getD j default).rds.length:=fun hx j hj=>by
   by_cases e:j=i
   ·subst e;exact hx
   ·exact i3 j (by omega)
  obtain ⟨u,hu⟩: ∃u,u=a.l.getD i default:=⟨_,rfl⟩
  have eu:=hu.symm
  obtain ⟨c,hc⟩: ∃c,c=a.cls.getD i []:=⟨_,rfl⟩
  have ec:=hc.symm
  rw [eu,ec]at hbad hS
  by_cases g6:c.length=u.rds.length
  ·have k8:((c.length:Int)=u.rds.length)=True:=eq_true (by omega)
   simp (disch:=omega) only [List.replicate,qI,jX,strs,unC,zE,k6,k7,k8,eu,ec,i2',go_sem]
   repeat' first
    |((first|apply qd|apply qb);exact rvk;simp only [go_sem];first|exact VLe.refl _|apply qe|apply qa|apply qf|skip)
    |with_reducible first|apply And.intro|intro _
   all_goals try exact clz
   refine hK _ _ (i+1,.mem (qr (some O4)+1) 83 (unC u)) ⟨hi,rfl,hS g6⟩ (by simp only;omega) (Wk.temps ?_)
   (simp only [qI,jX,qN,strs,jV,List.replicate,go_sem,qk,qi,qg,qj];try (repeat' first|(with_reducible apply And.intro)|(apply qe;omega)|(apply qa;rfl)|exact VLe.refl _))
  ·have k8:((c.length:Int)=u.rds.length)=False:=eq_false (by omega)
   have hE9:=hbad g6
   rw [hE9,if_neg (by decide)]at hR
   rw [hR,hE9]
   simp (disch:=omega) only [List.replicate,qI,jX,strs,unC,zE,k6,k7,k8,eu,ec,i2',go_sem]
   repeat' first
    |((first|apply qd|apply qb);exact rvk;simp only [go_sem];first|exact VLe.refl _|apply qe|apply qa|apply qf|skip)
    |with_reducible first|apply And.intro|intro _
   all_goals try exact clz
   exact jW ⟨nl0,VLe.refl _,trivial⟩
 have k6:((i:Int)<a.l.length)=False:=eq_false (by omega)
 have hE0:E=0:=vv fun j hj=>i3 j (by omega)
 have hcl: ∀j,j<a.l.length→(a.cls.getD j []).length=(a.l.getD j default).rds.length:=fun j hj=>i3 j (by omega)
 rw [hE0,if_pos rfl]at hR
 rw [hR,hE0]
 clear hK hE hE0 vv hR i3
 have hok:=qvX g1
 simp (disch:=omega) only [List.replicate,qI,k6,go_sem]
 repeat' first
  |((first|apply qd|apply qb);exact rvk;simp only [go_sem];first|exact VLe.refl _|apply qe|apply qa|apply qf|skip)
  |with_reducible first|apply And.intro|intro _
 all_goals try exact clz
 refine qv (T:=fun s:ES=>qQ 200 [(2,jX a.cls),(3,qN a.b),(5,strs a.lay),(6,jV a.pos),(7,.op h.length 1 0),(11,.op (h.length+1) 1 0),(14,.op (h.length+2) 1 0),(15,.op (h.length+3) 1 0),(21,.osl (h.length+5) s.v 6 0 (enU a s.i).length),(86,qI a.l),(87,.int .i64 a.l.length),(88,.int .i64 s.i)])
  (H:=fun s=>h++ [.mem 1 26 (coC a.x),.mem 1 44 [zj a.gs],.mem 1 49 [.nl],.mem 1 35 [.int .i64 0],O4,zC s.v 58 (qaE (enU a s.i)),s.O6,s.O7,s.O8,s.O9,.emp s.e10,s.O11,s.O12,s.O13,.emp s.e14,s.O15,.emp 0])
  (inv:=fun s=>s.i≤a.l.length∧qE [s.O6] 0=true∧qE [s.O7] 0=true∧qE [s.O8] 0=true∧qE [s.O9] 0=true∧qE [s.O11] 0=true∧qE [s.O12] 0=true∧qE [s.O13] 0=true∧qE [s.O15] 0=true) (m:=fun s=>a.l.length-s.i) ⟨0,1,.emp 0,.emp 0,.emp 0,.emp 0,0,.emp 0,.emp 0,.emp 0,0,.emp 0⟩ ⟨Nat.zero_le _,rfl,rfl,rfl,rfl,rfl,rfl,rfl,rfl⟩ (Wk.temps ?_) ?_
 ·(simp only [qI,jX,qN,strs,jV,enU,List.length_nil,List.replicate,go_sem,qk,qi,qg,qj];try (repeat' first|(with_reducible apply And.intro)|(apply qe;omega)|(apply qa;rfl)|exact VLe.refl _))
 rintro ⟨k,v,O6,O7,O8,O9,e10,O11,O12,O13,e14,O15⟩ ⟨s1,p6,p7,p8,p9,p11,p12,p13,p15⟩ K hK
 simp only at s1 p6 p7 p8 p9 p11 p12 p13 p15 hK
 have p6': ∀m,qE (O6::m) 0=true:=fun _=>p6
 have p7': ∀m,qE (O7::m) 0=true:=fun _=>p7
 have p8': ∀m,qE (O8::m) 0=true:=fun _=>p8
 have p9': ∀m,qE (O9::m) 0=true:=fun _=>p9
 have p11': ∀m,qE (O11::m) 0=true:=fun _=>p11
 have p12': ∀m,qE (O12::m) 0=true:=fun _=>p12
 have p13': ∀m,qE (O13::m) 0=true:=fun _=>p13
 have p15': ∀m,qE (O15::m) 0=true:=fun _=>p15
 by_cases hk:k<a.l.length
 case neg=>
  have k7:((k:Int)<a.l.length)=False:=eq_false (by omega)
  obtain rfl:k=a.l.length:=by omega
  simp (disch:=omega) only [List.replicate,qI,k7,go_sem]
  repeat' first
   |((first|apply qd|apply qb);exact rvk;simp only [go_sem];first|exact VLe.refl _|apply qe|apply qa|apply qf|skip)
   |with_reducible first|apply And.intro|intro _
  all_goals try exact clz
  exact jW ⟨qkR rfl,VLe.refl _,trivial⟩
 have k7:((k:Int)<a.l.length)=True:=eq_true (by omega)
 have k8:((k:Int)<a.cls.length)=True:=eq_true (by omega)
 have hcu:=hcl k hk
 obtain ⟨e1,e2⟩:=spK hok hk
 obtain ⟨f1,f2,_,_⟩:=qjd hok hk
 have hown:=qrL hok hk
 have c160:=fun h=>qyh a.b (k:Int) (a.l.getD k default) h (by omega)
 rw [e1,e2]at c160
 obtain ⟨u,hu⟩: ∃u,u=a.l.getD k default:=⟨_,rfl⟩
 have eu:=hu.symm
 obtain ⟨F,hF⟩: ∃F,F=frK a k:=⟨_,rfl⟩
 obtain ⟨G,hG⟩: ∃G,G=toK a k:=⟨_,rfl⟩
 rw [←hF,←hG]at hown f1
 rw [←hG]at f2
 simp only [←hF,←hG,eu]at c160
 unfold qN unC at c160
 have q1:((F:Int)≤G)=True:=eq_true (by omega)
 have q2:((G:Int)≤a.b.length)=True:=eq_true (by omega)
 have q3:(0≤(F:Int))=True:=eq_true (by omega)
 simp (disch:=omega) only [List.replicate,qI,qN,unC,wdC,k7,eu,q1,q2,q3,p6',p7',go_sem]
 repeat' first
  |((first|refine cA (c160 _) ?_ ?_|refine cG (fun e=>c160 _) ?_ ?_|refine cU (fun _=>c160 _) ?_ ?_);(next=>exact flk);simp (disch:=omega) only [qI,qN,unC,wdC,k7,eu,q1,q2,q3,p6',p7',Int.toNat_natCast,go_sem])
  |((first|apply qd|apply qb);exact rvk;simp only [go_sem];first|exact VLe.refl _|apply qe|apply qa|apply qf|skip)
  |with_reducible first|apply And.intro|intro _
 all_goals try exact clz
 obtain ⟨v6,hv6⟩: ∃v6,v6=qr (some O6)+1:=⟨_,rfl⟩
 obtain ⟨v7,hv7⟩: ∃v7,v7=qr (some O7)+1:=⟨_,rfl⟩
 simp only [←hv6,←hv7]
 have t0:qbw (qeW a.b) F (F+0)= []:=by unfold qbw;simp
 have tl:(qeW a.b).length=a.b.length:=by unfold qeW;simp
 refine qv (T:=fun s:Nat×Nat×AObj×AObj=>qQ 200 [(2,jX a.cls),(3,qN a.b),(5,strs a.lay),(6,jV a.pos),(7,.op h.length 1 0),(11,.op (h.length+1) 1 0),(14,.op (h.length+2) 1 0),(15,.op (h.length+3) 1 0),(22,.int .i64 (k:Int)),(23,.op (h.length+6) v6 0),(24,.int .i64 (F:Int)),(25,.int .i64 (G:Int)),(26,.op (h.length+7) v7 0),(86,qI a.l),(87,.int .i64 a.l.length),(88,.int .i64 (k:Int)),(21,.osl (h.length+5) v 6 0 (enU a k).length),(103,.sl (G-F) fun j=>wdC (a.b.getD (F+j) default)),(104,.int .i64 ((G-F:Nat):Int)),(105,.int .i64 s.1)])
  (H:=fun s=>h++ [.mem 1 26 (coC a.x),.mem 1 44 [zj a.gs],.mem 1 49 [.nl],.mem 1 35 [.int .i64 0],O4,zC v 58 (qaE (enU a k)),.mem v6 83 (unC u),.mem v7 22 [.osl (h.length+10) s.2.1 1 0 s.1],s.2.2.1,s.2.2.2,zC s.2.1 9 (jc (qbw (qeW a.b) F (F+s.1))),O11,O12,O13,.emp e14,O15,.emp 0])
  (inv:=fun s=>s.1≤G-F∧qE [s.2.2.1] 0=true∧qE [s.2.2.2] 0=true) (m:=fun s=>G-F-s.1) (0,e10,O8,O9) ⟨Nat.zero_le _,p8,p9⟩
  (Wk.trans (Wk.ownNil (j:=h.length+7) (i:=0) (k:=h.length+10) (v:=v7) (ty:=22) (cs:= [.nl]) (ve:=e10) (sz:=1) ?c1 rfl ?c2) ?c3) ?c4
 case c1=>simp only [go_sem]
 case c2=>simp only [go_sem]
 case c3=>
  have eo:zC e10 9 (jc (qbw (qeW a.b) F (F+0)))= .emp e10:=by rw [t0];rfl
  have eo2:zC e10 9 (jc (qbw (qeW a.b) F F))= .emp e10:=eo
  simp only [go_sem,eo,eo2,List.set_cons_zero,unC]
  refine Wk.temps ?_
  (simp only [qI,jX,qN,wdC,strs,jV,unC,List.replicate,go_sem,qk,qi,qg,qj];try (repeat' first|(with_reducible apply And.intro)|(apply qe;omega)|(apply qa;rfl)|exact VLe.refl _))
 case c4=>
 rintro ⟨j,w,O8,O9⟩ ⟨j1,p8,p9⟩ K2 hK2
 simp only at j1 p8 p9 hK2
 have p8': ∀m,qE (O8::m) 0=true:=fun _=>p8
 have p9': ∀m,qE (O9::m) 0=true:=fun _=>p9
 have hsl:=qfG (t:=qeW a.b) (f:=F) (g:=F+j) (by omega) (by omega)
 by_cases hj:j<G-F
 ·have r1:((j:Int)<((G-F:Nat):Int))=True:=eq_true (by omega)
  have hsn:=qll (t:=qeW a.b) (f:=F) (d:=j) (by omega)
  have htx:(qeW a.b).getD (F+j) []=(a.b.getD (F+j) default).text:=by
   unfold qeW
   rw [gdqA,List.getElem?_map,gdqA,zM (show F+j<a.b.length by omega)]
   rfl
  obtain ⟨wd,hwd⟩: ∃wd,wd=a.b.getD (F+j) default:=⟨_,rfl⟩
  have ewd:=hwd.symm
  rw [htx,ewd]at hsn
  obtain ⟨S,hS⟩: ∃S,S=qbw (qeW a.b) F (F+j):=⟨_,rfl⟩
  have eS:=hS.symm
  rw [eS]at hsn hsl
  have hsl:S.length=j:=by omega
  have eC:=jF S
  have eTk:List.take j (jc S)=jc S:=List.take_of_length_le (by omega)
  rw [hsl]at eC
  simp (disch:=omega) only [List.replicate,wdC,r1,ewd,eS,p8',p9',eC,eTk,Nat.mul_one,go_sem]
  repeat' first
   |((first|apply qd|apply qb);exact rvk;simp only [go_sem];first|exact VLe.refl _|apply qe|apply qa|apply qf|skip)
   |with_reducible first|apply And.intro|intro _
  all_goals try exact clz
  have eA:jc S++ [AV.str wd.text]=jc (qbw (qeW a.b) F (F+(j+1))):=by rw [hsn,qbv];rfl
  try rw [eA]
  refine hK2 _ _ (j+1,w+1,.mem (qr (some O8)+1) 64 (wdC wd),.mem (qr (some O9)+1) 9 [.str wd.text]) ⟨hj,rfl,rfl⟩ (by simp only;omega) ?_
  simp only [wdC]
  refine Wk.temps ?_
  (simp only [qI,jX,qN,wdC,strs,jV,unC,List.replicate,go_sem,qk,qi,qg,qj];try (repeat' first|(with_reducible apply And.intro)|(apply qe;omega)|(apply qa;rfl)|exact VLe.refl _))
 ·have r1:((j:Int)<((G-F:Nat):Int))=False:=eq_false (by omega)
  obtain rfl:j=G-F:=by omega
  have hG2:F+(G-F)=G:=by omega
  rw [hG2,←hown]
  rw [hG2,←hown]at hsl
  clear hK2
  simp (disch:=omega) only [List.replicate,strs,r1,go_sem]
  repeat' first
   |((first|apply qd|apply qb);exact rvk;simp only [go_sem];first|exact VLe.refl _|apply qe|apply qa|apply qf|skip)
   |with_reducible first|apply And.intro|intro _
  all_goals try exact clz
  obtain ⟨W,hW⟩: ∃W,W=qsR a k:=⟨_,rfl⟩
  have eW:=hW.symm
  rw [eW]at hsl ⊢
  have hWl:W.length=G-F:=by omega
  have hWb:W.length≤1000000000:=by omega
  have hy0:enU a k++enY a k 0=enU a k:=by show enU a k++ []=_;simp
  refine qv (T:=fun s:EY=>qQ 200 [(2,jX a.cls),(3,qN a.b),(5,strs a.lay),(6,jV a.pos),(7,.op h.length 1 0),(11,.op (h.length+1) 1 0),(14,.op (h.length+2) 1 0),(15,.op (h.length+3) 1 0),(22,.int .i64 (k:Int)),(23,.op (h.length+6) v6 0),(24,.int .i64 (F:Int)),(25,.int .i64 (G:Int)),(26,.op (h.length+7) v7 0),(86,qI a.l),(87,.int .i64 a.l.length),(88,.int .i64 (k:Int)),(21,.osl (h.length+5) s.v 6 0 (enU a k++enY a k s.y).length),(116,.int .i64 a.lay.length),(117,.int .i64 s.y)])
   (H:=fun s=>h++ [.mem 1 26 (coC a.x),.mem 1 44 [zj a.gs],.mem 1 49 [.nl],.mem 1 35 [.int .i64 0],O4,zC s.v 58 (qaE (enU a k++enY a k s.y)),.mem v6 83 (unC u),.mem v7 22 [strs W],O8,O9,.emp (w+1),s.O11,s.O12,s.O13,.emp s.e14,s.O15,.emp 0])
   (inv:=fun s=>s.y≤a.lay.length∧qE [s.O11] 0=true∧qE [s.O12] 0=true∧qE [s.O13] 0=true∧qE [s.O15] 0=true) (m:=fun s=>a.lay.length-s.y) ⟨0,v,O11,O12,O13,e14,O15⟩ ⟨Nat.zero_le _,p11,p12,p13,p15⟩
   (Wk.trans (Wk.fzCell (j:=h.length+7) (k:=h.length+10) (i:=0) (v:=v7) (ty:=22) (cs:= [.osl (h.length+10) w 1 0 (G-F)]) (c:= .osl (h.length+10) w 1 0 (G-F)) (c':=strs W) ?d1 rfl ?d2 (by omega) ?d3) ?d4) ?d5
  case d1=>simp only [go_sem]
  case d2=>simp only [go_sem]
  case d3=>
   rw [qbn,getO_app]
   exact qcT (fun _=>rfl) hWl.symm
  case d4=>
   simp only [go_sem,hy0,List.set_cons_zero,unC]
   refine Wk.temps ?_
   (simp only [qI,jX,qN,wdC,strs,jV,unC,List.replicate,go_sem,qk,qi,qg,qj];try (repeat' first|(with_reducible apply And.intro)|(apply qe;omega)|(apply qa;rfl)|exact VLe.refl _))
  case d5=>
  rintro ⟨y,v,O11,O12,O13,e14,O15⟩ ⟨y1,p11,p12,p13,p15⟩ K3 hK3
  simp only at y1 p11 p12 p13 p15 hK3
  have p11': ∀m,qE (O11::m) 0=true:=fun _=>p11
  have p12': ∀m,qE (O12::m) 0=true:=fun _=>p12
  have p13': ∀m,qE (O13::m) 0=true:=fun _=>p13
  have p15': ∀m,qE (O15::m) 0=true:=fun _=>p15
  have hys:enY a k (y+1)=enY a k y++if vrK a k y= [] then [] else [enK a k y]:=rfl
  by_cases hy:y<a.lay.length
  case neg=>
   have r2:((y:Int)<a.lay.length)=False:=eq_false (by omega)
   obtain rfl:y=a.lay.length:=by omega
   have hus:enU a k++enY a k a.lay.length=enU a (k+1):=rfl
   rw [hus]
   simp (disch:=omega) only [List.replicate,strs,r2,go_sem]
   repeat' first
    |((first|apply qd|apply qb);exact rvk;simp only [go_sem];first|exact VLe.refl _|apply qe|apply qa|apply qf|skip)
    |with_reducible first|apply And.intro|intro _
   all_goals try exact clz
   refine hK _ _ ⟨k+1,v,.mem v6 83 (unC u),.mem v7 22 [strs W],O8,O9,w+1,O11,O12,O13,e14,O15⟩ ⟨hk,rfl,rfl,p8,p9,p11,p12,p13,p15⟩ (by simp only;omega) ?_
   simp only [unC]
   refine Wk.temps ?_
   (simp only [qI,jX,qN,wdC,strs,jV,unC,List.replicate,go_sem,qk,qi,qg,qj];try (repeat' first|(with_reducible apply And.intro)|(apply qe;omega)|(apply qa;rfl)|exact VLe.refl _))
  have r2:((y:Int)<a.lay.length)=True:=eq_true (by omega)
  have r3:((y:Int)<a.pos.length)=True:=eq_true (by omega)
  obtain ⟨pb,hpb⟩: ∃pb,pb=a.pos.getD y false:=⟨_,rfl⟩
  have epb:=hpb.symm
  obtain ⟨cl,hclx⟩: ∃cl,cl=a.cls.getD k []:=⟨_,rfl⟩
  have ecl:=hclx.symm
  simp (disch:=omega) only [List.replicate,strs,jV,r2,r3,epb,p11',go_sem]
  repeat' first
   |((first|apply qd|apply qb);exact rvk;simp only [go_sem];first|exact VLe.refl _|apply qe|apply qa|apply qf|skip)
   |with_reducible first|apply And.intro|intro _
  all_goals try exact clz
  obtain ⟨v11,hv11⟩: ∃v11,v11=qr (some O11)+1:=⟨_,rfl⟩
  simp only [←hv11]
  refine ⟨_,_,Wk.trans (Wk.cells (j:=h.length+11) (v:=v11) (ty:=58) (cs:= [.int .i64 (y:Int),.int .i64 (F:Int),.int .i64 (G:Int),.bool pb,.nl,.nl]) (cs':= [.int .i64 (y:Int),.int .i64 (F:Int),.int .i64 (G:Int),.bool pb,strs [],.nl]) ?m1 ?m2)
   (Wk.ownNil (j:=h.length+11) (i:=5) (k:=h.length+14) (v:=v11) (ty:=58) (cs:= [.int .i64 (y:Int),.int .i64 (F:Int),.int .i64 (G:Int),.bool pb,strs [],.nl]) (ve:=e14) (sz:=2) ?m3 rfl ?m4),?_⟩
  case m1=>simp only [go_sem]
  case m2=>exact ⟨VLe.refl _,VLe.refl _,VLe.refl _,VLe.refl _,kj,VLe.refl _,trivial⟩
  case m3=>simp only [go_sem]
  case m4=>simp only [go_sem]
  have c161:=fun h=>qAa u cl W a.lay (y:Int) h
  unfold unC strs at c161
  have kc:((k:Int)<a.cls.length)=True:=k8
  simp (disch:=omega) only [List.set_cons_succ,List.set_cons_zero,jX,strs,unC,k8,ecl,go_sem]
  repeat' first
   |((first|refine cA (c161 _) ?_ ?_|refine cG (fun e=>c161 _) ?_ ?_|refine cU (fun _=>c161 _) ?_ ?_);(next=>exact flk);simp (disch:=omega) only [jX,strs,k8,ecl,unC,go_sem])
   |((first|apply qd|apply qb);exact rvk;simp only [go_sem];first|exact VLe.refl _|apply qe|apply qa|apply qf|skip)
   |with_reducible first|apply And.intro|intro _
  all_goals try exact clz
  have hmem:u∈a.l:=by rw [hu,gdqA,zM hk];exact List.getElem_mem hk
  have hur:=(qcX hok.un).rg u hmem
  have hri:qfO u.rds a.x.sig.length:=by rw [hur.2.2.2];exact qn5 _ _ _
  have hsgl:=(qiW hok.co).sg
  have hsr: ∀r,r<u.rds.length→(u.rds.getD r default).src.length≤32∧qlZ a.x.sig a.gs (u.rds.getD r default).src=0:=fun r hr=>by
   have h1:=hri.src (u.rds.getD r default) (by rw [gdqA,zM hr];exact List.getElem_mem hr)
   have h2:=qd8 (hi:=((a.x.sig.length:Nat):Int)) (lo:=0) h1.1 h1.2
   refine ⟨by omega,?_⟩
   unfold qlZ
   rw [if_pos g2]
   exact qvG h1.1 h1.2
  have h8:=qjs hz.g42 g2
  have zrl:=hz.un.rd k
  have zwd:=hz.un.wd k
  rw [eu]at zrl
  simp only [eu]at zwd
  have zcl:cl.length=u.rds.length:=by rw [←ecl,←eu];exact hcu
  have hV:=qwn g3 k y (a.l.getD k default).rds.length
  rw [eu,ecl,eW]at hV
  obtain ⟨VL,hVL⟩: ∃VL,VL=vrK a k y:=⟨_,rfl⟩
  have hV:VL=flG (vtB u.rds cl W a.lay (y:Int)) (fun r=>(⟨(u.rds.getD r default).words,shR a.x.sig a.gs (u.rds.getD r default).src⟩:Va)) u.rds.length:=by
   rw [hVL,←hV]
   unfold vrK
   rw [eu]
  have hxl:(vtX u.rds cl W a.lay (y:Int) u.rds.length).length=VL.length:=by rw [hV];exact qje _ _ _ _
  have hVLn:VL.length≤u.rds.length:=by rw [hV];exact qum _ _ _
  have hix:=fun i hi=>qul (p:=vtB u.rds cl W a.lay (y:Int)) (g:=fun r=>([.agg (rdC (u.rds.getD r default))]:List AV)) (k:=fun r=>(⟨(u.rds.getD r default).words,shR a.x.sig a.gs (u.rds.getD r default).src⟩:Va)) (n:=u.rds.length) (i:=i) hi
  rw [←hV]at hix
  refine qad (xs:=vtX u.rds cl W a.lay (y:Int) u.rds.length) (itV u cl W a.lay (y:Int) zrl zcl zwd hWb (by omega) (fun i=>by have:=hz.yl i;omega)) ?e0
   (S:=fun i hh=> ∃w2 Q12 Q13,qE [Q12] 0=true∧qE [Q13] 0=true∧(Q12=O12∨ ∀n,kf n Q12)∧(Q13=O13∨ ∀n,kf n Q13)∧hh=h++ [.mem 1 26 (coC a.x),.mem 1 44 [zj a.gs],.mem 1 49 [.nl],.mem 1 35 [.int .i64 0],O4,zC v 58 (qaE (enU a k++enY a k y)),.mem v6 83 (unC u),.mem v7 22 [strs W],O8,O9,.emp (w+1),.mem v11 58 [.int .i64 (y:Int),.int .i64 (F:Int),.int .i64 (G:Int),.bool pb,strs [],.osl (h.length+14) w2 2 0 i],Q12,Q13,zC w2 85 (qcs (VL.take i)),O15,.emp 0])
   (E:=fun _ _=>False) ?e1 (fun _ _ h=>h.elim) ?e2 ?e3 ?e4 ?e5 (fun _ _ h=>h.elim)
  case e0=>
   intro x hx
   unfold vtX at hx
   obtain ⟨i,hi,e⟩:=List.getElem_of_mem hx
   obtain ⟨r,_,_,r3,_⟩:=hix i hi
   rw [←e,r3]
   rfl
  case e1=>
   rintro i hh ⟨w2,Q12,Q13,_,_,l12,l13,rfl⟩
   refine LowI.app rfl (fun o ho=> ?_)
   simp only [List.mem_cons,List.not_mem_nil,or_false]at ho
   have lft: ∀ {p q:Prop},p→p∨q:=fun h=> .inl h
   rcases ho with rfl|rfl|rfl|rfl|rfl|rfl|rfl|rfl|rfl|rfl|rfl|rfl|rfl|rfl|rfl|rfl|rfl
   case inr.inr.inr.inr.inr.inr.inr.inr.inr.inr.inr.inl=>
    right
    constructor<;>(intro c hc;simp only [List.mem_cons,List.not_mem_nil,or_false]at hc;rcases hc with rfl|rfl|rfl|rfl|rfl|rfl<;>simp [zQ,qcI])
   case inr.inr.inr.inr.inr.inr.inr.inr.inr.inr.inr.inr.inl=>
    rcases l12 with rfl|l12
    ·left;simp only [List.mem_cons,true_or,or_true]
    ·right;exact ⟨l12 _,l12 _⟩
   case inr.inr.inr.inr.inr.inr.inr.inr.inr.inr.inr.inr.inr.inl=>
    rcases l13 with rfl|l13
    ·left;simp only [List.mem_cons,true_or,or_true]
    ·right;exact ⟨l13 _,l13 _⟩
   case inr.inr.inr.inr.inr.inr.inr.inr.inr.inr.inr.inr.inr.inr.inl=>
    right
    exact ⟨kM (qfK _ _),kM (qfK _ _)⟩
   all_goals
    left
    simp only [List.mem_cons,unC,strs,true_or,or_true]
  case e2=>exact ⟨e14,O12,O13,p12,p13,.inl rfl,.inl rfl,rfl⟩
  case e3=>
   have lw: ∀n,zQ n (qN a.b)=true:=fun _=>rfl
   have lu: ∀n,zQ n (qI a.l)=true:=fun _=>rfl
   have lr: ∀n,zQ n (zE u.rds)=true:=fun _=>rfl
   simp [zQ,zQ.lowVs,lw,lu,lr]
   try omega
  case e4=>
   rintro i hh tl LI TS hi ⟨w2,Q12,Q13,q12,q13,l12,l13,rfl⟩ hlen K4 K5 hK4 hN hR' hX
   obtain ⟨r,ra,rb,rc,rd4⟩:=hix i hi
   have rc':(vtX u.rds cl W a.lay (y:Int) u.rds.length)[i]= [.agg (rdC (u.rds.getD r default))]:=rc
   rw [rc']
   rw [hxl]at hi
   have q12': ∀m,qE (Q12::m) 0=true:=fun _=>q12
   have q13': ∀m,qE (Q13::m) 0=true:=fun _=>q13
   obtain ⟨sl,sE⟩:=hsr r ra
   have zw:=zwd r
   obtain ⟨rd,hrd⟩: ∃rd,rd=u.rds.getD r default:=⟨_,rfl⟩
   rw [←hrd]at rd4 sl sE zw ⊢
   have c142:=fun h=>qy7 a.x.sig a.gs rd.src h hsz (by omega) (fun _=>h8)
   simp only [sE]at c142
   obtain ⟨sh,hsh⟩: ∃sh,sh=shR a.x.sig a.gs rd.src:=⟨_,rfl⟩
   rw [←hsh]at rd4
   simp only [←hsh]at c142
   have hTk:VL.take (i+1)=VL.take i++ [⟨rd.words,sh⟩]:=by rw [List.take_add_one,rd4];rfl
   have hTl:(VL.take i).length=i:=by rw [List.length_take];omega
   have eVl:=qfJ (VL.take i)
   rw [hTl]at eVl
   have eVk:List.take (i*2) (qcs (VL.take i))=qcs (VL.take i):=List.take_of_length_le (by omega)
   have eVn:qcs (VL.take (i+1))=qcs (VL.take i)++ [strs rd.words,strs sh]:=by rw [hTk,qoM];rfl
   unfold strs qp at c142
   simp only [qbj]
   simp (disch:=omega) only [List.append_assoc,coC,rdC,q12',go_sem]
   refine hK4 _ _ (h++ [.mem 1 26 (coC a.x),.mem 1 44 [zj a.gs],.mem 1 49 [.nl],.mem 1 35 [.int .i64 0],O4,zC v 58 (qaE (enU a k++enY a k y)),.mem v6 83 (unC u),.mem v7 22 [strs W],O8,O9,.emp (w+1),.mem v11 58 [.int .i64 (y:Int),.int .i64 (F:Int),.int .i64 (G:Int),.bool pb,strs [],.osl (h.length+14) w2 2 0 i],.mem (qr (some Q12)+1) 89 (rdC rd),Q13,zC w2 85 (qcs (VL.take i)),O15,.emp 0]) (by simp [coC,rdC]) (by simp) ?_
   simp (disch:=omega) only [List.append_assoc,coC,rdC,qp,strs,q13',eVl,eVk,Nat.mul_one,go_sem]
   repeat' first
    |((first|refine cA (c142 _) ?_ ?_|refine cG (fun e=>c142 _) ?_ ?_|refine cU (fun _=>c142 _) ?_ ?_);(next=>exact flk);simp (disch:=omega) only [List.append_assoc,coC,rdC,qp,strs,q13',eVl,eVk,Nat.mul_one,go_sem])
    |((first|apply qd|apply qb);exact rvk;simp only [go_sem];first|exact VLe.refl _|apply qe|apply qa|apply qf|skip)
    |with_reducible first|apply And.intro|intro _
   all_goals try exact clz
   have hl1: ∀n,kf n (.mem (qr (some Q12)+1) 89 (rdC rd)):=fun n c hc=>by
    simp only [rdC,List.mem_cons,List.not_mem_nil,or_false]at hc
    rcases hc with rfl|rfl<;>rfl
   have hl2: ∀n,kf n (.mem (qr (some Q13)+1) 85 [strs rd.words,strs sh]):=fun n c hc=>by
    simp only [List.mem_cons,List.not_mem_nil,or_false]at hc
    rcases hc with rfl|rfl<;>rfl
   refine hN _ _ (h++ [.mem 1 26 (coC a.x),.mem 1 44 [zj a.gs],.mem 1 49 [.nl],.mem 1 35 [.int .i64 0],O4,zC v 58 (qaE (enU a k++enY a k y)),.mem v6 83 (unC u),.mem v7 22 [strs W],O8,O9,.emp (w+1),.mem v11 58 [.int .i64 (y:Int),.int .i64 (F:Int),.int .i64 (G:Int),.bool pb,strs [],.osl (h.length+14) (w2+1) 2 0 (i+1)],.mem (qr (some Q12)+1) 89 (rdC rd),.mem (qr (some Q13)+1) 85 [strs rd.words,strs sh],zC (w2+1) 85 (qcs (VL.take (i+1))),O15,.emp 0]) (by rw [eVn,List.append_assoc];rfl) (by simp) ⟨w2+1,_,_,rfl,rfl,.inr hl1,.inr hl2,rfl⟩
  case e5=>
   rintro hh ⟨w2,Q12,Q13,q12,q13,l12,l13,rfl⟩
   have q12': ∀m,qE (Q12::m) 0=true:=fun _=>q12
   have q13': ∀m,qE (Q13::m) 0=true:=fun _=>q13
   rw [hxl,List.take_length]
   simp (disch:=omega) only [go_sem]
   refine ⟨_,_,Wk.fzCell (j:=h.length+11) (k:=h.length+14) (i:=5) (v:=v11) (ty:=58) (cs:= [.int .i64 (y:Int),.int .i64 (F:Int),.int .i64 (G:Int),.bool pb,strs [],.osl (h.length+14) w2 2 0 VL.length]) (c:= .osl (h.length+14) w2 2 0 VL.length) (c':=qbl VL) ?n1 rfl ?n2 (by omega) ?n3,?_⟩
   case n1=>simp only [go_sem]
   case n2=>simp only [go_sem]
   case n3=>
    rw [qbn,getO_app]
    exact qoo rfl
   have zv: ∀g,valL g .len [qbl VL]= .int .i64 VL.length:=fun _=>rfl
   have zw: ∀g,okL g .len [qbl VL]=True:=fun _=>eq_true trivial
   by_cases hV0:VL.length=0
   ·have n0:((VL.length:Int)=0)=True:=eq_true (by omega)
    simp (disch:=omega) only [List.set_cons_succ,List.set_cons_zero,zv,zw,n0,go_sem]
    repeat' first
     |((first|apply qd|apply qb);exact rvk;simp only [go_sem];first|exact VLe.refl _|apply qe|apply qa|apply qf|skip)
     |with_reducible first|apply And.intro|intro _
    all_goals try exact clz
    have hnil:VL= []:=List.eq_nil_of_length_eq_zero hV0
    rw [←hVL,hnil,if_pos rfl,List.append_nil]at hys
    refine hK3 _ _ ⟨y+1,v,.mem v11 58 [.int .i64 (y:Int),.int .i64 (F:Int),.int .i64 (G:Int),.bool pb,strs [],qbl VL],Q12,Q13,w2+1,O15⟩ ⟨hy,rfl,q12,q13,p15⟩ (by simp only;omega) ?_
    simp only [hys]
    refine Wk.temps ?_
    (simp only [qI,jX,qN,wdC,strs,jV,unC,List.replicate,go_sem,qk,qi,qg,qj];try (repeat' first|(with_reducible apply And.intro)|(apply qe;omega)|(apply qa;rfl)|exact VLe.refl _))
   have n0:((VL.length:Int)=0)=False:=eq_false (by omega)
   have hne: ¬VL= []:=fun e=>hV0 (by rw [e];rfl)
   rw [←hVL,if_neg hne]at hys
   have eBA:baK a k=kS (fun r=>decide ((u.rds.getD r default).words=W)) u.rds.length 0:=by unfold baK;rw [eu,eW]
   have hBc:=zG (fun r=>decide ((u.rds.getD r default).words=W)) u.rds.length
   have hsu:suK a k y=if pb=true∧0≤baK a k then shR a.x.sig a.gs (u.rds.getD (baK a k).toNat default).src else []:=by unfold suK;rw [epb,eu]
   have hen:enC (enK a k y)= [.int .i64 (y:Int),.int .i64 (F:Int),.int .i64 (G:Int),.bool pb,strs (suK a k y),qbl VL]:=by
    unfold enK enC
    rw [epb,←hF,←hG,←hVL]
   have hMl:=qqV a k y
   obtain ⟨M,hM⟩: ∃M,M=enU a k++enY a k y:=⟨_,rfl⟩
   have hMn:enU a k++enY a k (y+1)=M++ [enK a k y]:=by rw [hys,hM,List.append_assoc]
   rw [←hM]at hMl ⊢
   have hMb:M.length≤1000:=by
    have h1:k*a.lay.length≤12*18:=Nat.mul_le_mul (by omega) z3
    omega
   have eMl:=qfa M
   have eMk:List.take (M.length*6) (qaE M)=qaE M:=List.take_of_length_le (by omega)
   have eMn:qaE (enU a k++enY a k (y+1))=qaE M++enC (enK a k y):=by rw [hMn,qmQ,qmS]
   have eMq:(enU a k++enY a k (y+1)).length=M.length+1:=by rw [hMn,List.length_append];rfl
   have c127:=fun H hk=>qx0 u.rds W (h.length+7) v7 H hk (by omega) zwd hWb
   rw [←eBA]at c127 hBc
   obtain ⟨bk,hbk⟩: ∃bk,bk=baK a k:=⟨_,rfl⟩
   rw [←hbk]at hsu hBc
   simp only [←hbk]at c127
   obtain ⟨su,hsux⟩: ∃su,su=suK a k y:=⟨_,rfl⟩
   rw [←hsux]at hsu hen
   simp (disch:=omega) only [List.set_cons_succ,List.set_cons_zero,zv,zw,n0,unC,go_sem]
   repeat' first
    |((first|apply qd|apply qb);exact rvk;simp only [go_sem];first|exact VLe.refl _|apply qe|apply qa|apply qf|skip)
    |with_reducible first|apply And.intro|intro _
   all_goals try exact clz
   refine cA (c127 _ ?ka) (by exact flk) ?_
   case ka=>simp only [go_sem]
   cases pb with
   |false=>
    rw [if_neg (by simp)]at hsu
    rw [hsu]at hen
    simp (disch:=omega) only [jV,r3,epb,p15',eMl,eMk,Nat.mul_one,go_sem]
    repeat' first
     |((first|apply qd|apply qb);exact rvk;simp only [go_sem];first|exact VLe.refl _|apply qe|apply qa|apply qf|skip)
     |with_reducible first|apply And.intro|intro _
    all_goals try exact clz
    rw [hen]at eMn
    try rw [←eMn]
    refine hK3 _ _ ⟨y+1,v+1,.mem v11 58 [.int .i64 (y:Int),.int .i64 (F:Int),.int .i64 (G:Int),.bool false,strs [],qbl VL],Q12,Q13,w2+1,.mem (qr (some O15)+1) 58 [.int .i64 (y:Int),.int .i64 (F:Int),.int .i64 (G:Int),.bool false,strs [],qbl VL]⟩ ⟨hy,rfl,q12,q13,rfl⟩ (by simp only;omega) ?_
    simp only [eMq]
    refine Wk.temps ?_
    (simp only [qI,jX,qN,wdC,strs,jV,unC,List.replicate,go_sem,qk,qi,qg,qj];try (repeat' first|(with_reducible apply And.intro)|(apply qe;omega)|(apply qa;rfl)|exact VLe.refl _))
   |true=>
   by_cases hb0:0≤bk
   case neg=>
    have n1:(0≤bk)=False:=eq_false hb0
    rw [if_neg (fun hc=>hb0 hc.2)]at hsu
    rw [hsu]at hen
    simp (disch:=omega) only [jV,r3,epb,p15',eMl,eMk,n1,Nat.mul_one,go_sem]
    repeat' first
     |((first|apply qd|apply qb);exact rvk;simp only [go_sem];first|exact VLe.refl _|apply qe|apply qa|apply qf|skip)
     |with_reducible first|apply And.intro|intro _
    all_goals try exact clz
    rw [hen]at eMn
    try rw [←eMn]
    refine hK3 _ _ ⟨y+1,v+1,.mem v11 58 [.int .i64 (y:Int),.int .i64 (F:Int),.int .i64 (G:Int),.bool true,strs [],qbl VL],Q12,Q13,w2+1,.mem (qr (some O15)+1) 58 [.int .i64 (y:Int),.int .i64 (F:Int),.int .i64 (G:Int),.bool true,strs [],qbl VL]⟩ ⟨hy,rfl,q12,q13,rfl⟩ (by simp only;omega) ?_
    simp only [eMq]
    refine Wk.temps ?_
    (simp only [qI,jX,qN,wdC,strs,jV,unC,List.replicate,go_sem,qk,qi,qg,qj];try (repeat' first|(with_reducible apply And.intro)|(apply qe;omega)|(apply qa;rfl)|exact VLe.refl _))
   case pos=>
    have n1:(0≤bk)=True:=eq_true hb0
    rw [if_pos ⟨rfl,hb0⟩]at hsu
    obtain ⟨r,hr1,hr2⟩: ∃r:Nat,bk=(r:Int)∧r<u.rds.length:=by
     rcases hBc with ⟨i,h1,_,_,h4⟩|⟨_,h2⟩
     ·exact ⟨i,h4,h1⟩
     ·omega
    rw [hr1]at n1
    rw [hr1,Int.toNat_natCast]at hsu
    simp only [hr1]
    have n2:((r:Int)<u.rds.length)=True:=eq_true (by omega)
    obtain ⟨sl,sE⟩:=hsr r hr2
    obtain ⟨rd,hrd⟩: ∃rd,rd=u.rds.getD r default:=⟨_,rfl⟩
    have erd:=hrd.symm
    rw [erd]at sl sE hsu
    have c142:=fun h=>qy7 a.x.sig a.gs rd.src h hsz (by omega) (fun _=>h8)
    simp only [sE,←hsu]at c142
    unfold strs qp at c142
    simp (disch:=omega) only [jV,r3,epb,n1,n2,coC,unC,zE,rdC,qp,strs,erd,go_sem]
    repeat' first
     |((first|refine cA (c142 _) ?_ ?_|refine cG (fun e=>c142 _) ?_ ?_|refine cU (fun _=>c142 _) ?_ ?_);(next=>exact flk);simp (disch:=omega) only [jV,r3,epb,n1,n2,coC,unC,zE,rdC,qp,strs,erd,p15',eMl,eMk,Nat.mul_one,List.set_cons_succ,List.set_cons_zero,go_sem])
     |((first|apply qd|apply qb);exact rvk;simp only [go_sem];first|exact VLe.refl _|apply qe|apply qa|apply qf|skip)
     |with_reducible first|apply And.intro|intro _
    all_goals try exact clz
    rw [hen]at eMn
    unfold strs at eMn
    try rw [←eMn]
    refine hK3 _ _ ⟨y+1,v+1,.mem v11 58 [.int .i64 (y:Int),.int .i64 (F:Int),.int .i64 (G:Int),.bool true,strs su,qbl VL],Q12,Q13,w2+1,.mem (qr (some O15)+1) 58 [.int .i64 (y:Int),.int .i64 (F:Int),.int .i64 (G:Int),.bool true,strs su,qbl VL]⟩ ⟨hy,rfl,q12,q13,rfl⟩ (by simp only;omega) ?_
    simp only [eMq]
    refine Wk.temps ?_
    (simp only [qI,jX,qN,wdC,strs,jV,unC,List.replicate,go_sem,qk,qi,qg,qj];try (repeat' first|(with_reducible apply And.intro)|(apply qe;omega)|(apply qa;rfl)|exact VLe.refl _))
end RC
end
section
open Go Go.Proofs AF HY LN
namespace RC
set_option maxHeartbeats 4000000
deriving instance DecidableEq for Va
deriving instance DecidableEq for En
def tkS (s:Str):Tk:=⟨s,s,[],0,0,[]⟩
def qcR:Str:= [100,101,117,115]
def qsV:Str:= [101,115,116]
def qaA:Str:= [98,111,110,117,115]
def xCo:Co:=⟨[97],[[65],[66]],[[tkS qcR,tkS qsV,tkS qaA],[tkS qcR,tkS qaA]],[[0,0],[1,-1],[2,1]]⟩
def xUn:List Un:= [⟨1,2,[⟨[qsV],[0]⟩,⟨[],[1]⟩]⟩]
def xCl:List (List Str):= [[[98,97,115,101],[111,109,105,115,115,105,111,110]]]
def xBa:List Wd:= [⟨qcR,0,-1,-1,false,false,[]⟩,⟨qsV,1,0,-1,false,false,[]⟩,⟨qaA,2,-1,-1,false,false,[]⟩]
def xLa:List Str:= [[111,109,105,115,115,105,111,110]]
def xAp:Ap:=⟨xCo,xUn,xCl,xBa,[],xLa,[true]⟩
def xEn:List En:= [⟨0,1,2,true,[[65]],[⟨[],[[66]]⟩]⟩]
def xL3:List Str:= [[97,32,98],[99],[100]]
theorem qyI:enE xAp=0:=by decide+kernel
theorem qyJ:enR xAp=xEn:=by decide+kernel
theorem qsK:lyR xL3 [120]=2∧lyE xL3=0:=by decide+kernel
theorem qyK:lyR xL3 [98]=0:=by decide+kernel
end RC
end
section
namespace AF
open Go
end AF
end
section
open Go Go.Proofs AF HY LN
namespace RC
set_option maxHeartbeats 16000000
theorem qz1 (e:En) (h:List AObj) (hs:e.sup.length≤1000000000) (hv:e.vars.length≤1000000000) (hw: ∀j,(e.vars.getD j default).words.length≤1000000000) (hg: ∀j,(e.vars.getD j default).sigla.length≤1000000000):
  ACalls Tryz.prog 30 [.agg (enC e),.agg (enC e)] h (.bool true) h:=by
 have c85:=fun h=>qyg e.sup e.sup h hs hs
 rw [decide_eq_true rfl]at c85
 have zv1: ∀g,valL g .len [qbl e.vars]= .int .i64 e.vars.length:=fun _=>rfl
 have zv2: ∀g,okL g .len [qbl e.vars]=True:=fun _=>eq_true trivial
 refine acO qxJ ?_
 simp (disch:=omega) only [qyR,List.replicate,enC,zv1,zv2,go_sem]
 repeat' first
  |((first|refine cA (c85 _) ?_ ?_|refine cG (fun e=>c85 _) ?_ ?_|refine cU (fun _=>c85 _) ?_ ?_);(next=>exact flk);simp (disch:=omega) only [enC,zv1,zv2,go_sem])
  |((first|apply qd|apply qb);exact rvk;simp only [go_sem];first|exact VLe.refl _|apply qe|apply qa|apply qf|skip)
  |with_reducible first|apply And.intro|intro _
 all_goals try exact clz
 refine qv (T:=fun i:Nat=>qQ 86 [(2,.op h.length 1 0),(3,.op (h.length+1) 1 0),(5,.int .i64 i)])
  (H:=fun _=>h++ [.mem 1 58 [.int .i64 e.layer,.int .i64 e.frm,.int .i64 e.to,.bool e.pos,strs e.sup,qbl e.vars],.mem 1 58 [.int .i64 e.layer,.int .i64 e.frm,.int .i64 e.to,.bool e.pos,strs e.sup,qbl e.vars]])
  (inv:=fun i=>i≤e.vars.length) (m:=fun i=>e.vars.length-i) 0 (Nat.zero_le _) (Wk.temps ?_) ?_
 ·(simp only [List.replicate,go_sem,qk,qi,qg,qj];try (repeat' first|(with_reducible apply And.intro)|(apply qe;omega)|(apply qa;rfl)|exact VLe.refl _))
 rintro i i1 K hK
 by_cases hi:i<e.vars.length
 ·have k1:((i:Int)<e.vars.length)=True:=eq_true (by omega)
  have cw:=fun h=>qyg (e.vars.getD i default).words (e.vars.getD i default).words h (hw i) (hw i)
  have cg:=fun h=>qyg (e.vars.getD i default).sigla (e.vars.getD i default).sigla h (hg i) (hg i)
  rw [decide_eq_true rfl]at cw cg
  obtain ⟨x,hx⟩: ∃x,x=e.vars.getD i default:=⟨_,rfl⟩
  have ex:=hx.symm
  simp only [ex]at cw cg
  have zz:qbl e.vars= .sl e.vars.length fun i=>vaC (e.vars.getD i default):=rfl
  simp (disch:=omega) only [List.replicate,zz,vaC,k1,ex,go_sem]
  repeat' first
   |((first|refine cA (cw _) ?_ ?_|refine cG (fun e=>cw _) ?_ ?_|refine cA (cg _) ?_ ?_|refine cG (fun e=>cg _) ?_ ?_|refine cU (fun _=>cw _) ?_ ?_|refine cU (fun _=>cg _) ?_ ?_);(next=>exact flk);simp (disch:=omega) only [zz,vaC,k1,ex,go_sem])
   |((first|apply qd|apply qb);exact rvk;simp only [go_sem];first|exact VLe.refl _|apply qe|apply qa|apply qf|skip)
   |with_reducible first|apply And.intro|intro _
  all_goals try exact clz
  refine hK _ _ (i+1) hi (by omega) (Wk.temps ?_)
  (simp only [List.replicate,zz,go_sem,qk,qi,qg,qj];try (repeat' first|(with_reducible apply And.intro)|(apply qe;omega)|(apply qa;rfl)|exact VLe.refl _))
 ·have k1:((i:Int)<e.vars.length)=False:=eq_false (by omega)
  simp (disch:=omega) only [List.replicate,k1,zv1,zv2,go_sem]
  repeat' first
   |((first|apply qd|apply qb);exact rvk;simp only [go_sem];first|exact VLe.refl _|apply qe|apply qa|apply qf|skip)
   |with_reducible first|apply And.intro|intro _
  all_goals try exact clz
structure EqZ (l:List En):Prop where
 n:l.length≤1000000000
 s: ∀i,(l.getD i default).sup.length≤1000000000
 v: ∀i,(l.getD i default).vars.length≤1000000000
 w: ∀i j,((l.getD i default).vars.getD j default).words.length≤1000000000
 g: ∀i j,((l.getD i default).vars.getD j default).sigla.length≤1000000000
theorem qz0 (l:List En) (h:List AObj) (hz:EqZ l):ACalls Tryz.prog 29 [qbh l,qbh l] h (.bool true) h:=by
 have c68:=fun i h=>qz1 (l.getD i default) h (hz.s i) (hz.v i) (hz.w i) (hz.g i)
 have hn:=hz.n
 refine acO qxI ?_
 simp (disch:=omega) only [qyQ,List.replicate,qbh,go_sem]
 repeat' first
  |((first|apply qd|apply qb);exact rvk;simp only [go_sem];first|exact VLe.refl _|apply qe|apply qa|apply qf|skip)
  |with_reducible first|apply And.intro|intro _
 all_goals try exact clz
 refine qv (T:=fun i:Nat=>qQ 27 [(0,qbh l),(1,qbh l),(5,.int .i64 i)]) (H:=fun _=>h) (inv:=fun i=>i≤l.length) (m:=fun i=>l.length-i) 0 (Nat.zero_le _) (Wk.temps ?_) ?_
 ·(simp only [qbh,List.replicate,go_sem,qk,qi,qg,qj];try (repeat' first|(with_reducible apply And.intro)|(apply qe;omega)|(apply qa;rfl)|exact VLe.refl _))
 rintro i i1 K hK
 by_cases hi:i<l.length
 ·have k1:((i:Int)<l.length)=True:=eq_true (by omega)
  have c68:=c68 i
  obtain ⟨x,hx⟩: ∃x,x=l.getD i default:=⟨_,rfl⟩
  have ex:=hx.symm
  simp only [ex]at c68
  unfold enC at c68
  simp (disch:=omega) only [List.replicate,qbh,enC,k1,ex,go_sem]
  repeat' first
   |((first|refine cA (c68 _) ?_ ?_|refine cG (fun e=>c68 _) ?_ ?_|refine cU (fun _=>c68 _) ?_ ?_);(next=>exact flk);simp (disch:=omega) only [qbh,enC,k1,ex,go_sem])
   |((first|apply qd|apply qb);exact rvk;simp only [go_sem];first|exact VLe.refl _|apply qe|apply qa|apply qf|skip)
   |with_reducible first|apply And.intro|intro _
  all_goals try exact clz
  refine hK _ _ (i+1) hi (by omega) (Wk.temps ?_)
  (simp only [qbh,List.replicate,go_sem,qk,qi,qg,qj];try (repeat' first|(with_reducible apply And.intro)|(apply qe;omega)|(apply qa;rfl)|exact VLe.refl _))
 ·have k1:((i:Int)<l.length)=False:=eq_false (by omega)
  simp (disch:=omega) only [List.replicate,qbh,k1,go_sem]
  repeat' first
   |((first|apply qd|apply qb);exact rvk;simp only [go_sem];first|exact VLe.refl _|apply qe|apply qa|apply qf|skip)
   |with_reducible first|apply And.intro|intro _
  all_goals try exact clz
end RC
end
section
open Go Go.Proofs AF
def qrk:List Nat:= [96]
def qyP:C:=
 ((C.ops [MC 0 (.bool false)]).seq ((C.ops [⟨some 10,none,.build [.str [],i6 0,i6 0,i6 0,.bool false,.bool false,.str []] [(0,1),(2,1),(3,1)],[.c (.str [100,101,117,
 115]),.c (i6 (-1)),.c (i6 (-1))]⟩,⟨some 11,none,.build [.str [],i6 0,i6 0,i6 0,.bool false,.bool false,.str []] [(0,1),(1,1),(3,1)],[.c (.str [101,115,116]),.c
 (i6 1),.c (i6 (-1))]⟩,⟨some 12,none,.build [.str [],i6 0,i6 0,i6 0,.bool false,.bool false,.str []] [(0,1),(1,1),(2,1),(3,1)],[.c (.str [98,111,110,117,115]),
 .c (i6 2),.c (i6 (-1)),.c (i6 (-1))]⟩,⟨some 13,none,.bslc 0 7 3 64 [.str [],i6 0,i6 0,i6 0,.bool false,.bool false,.str []] [(0,7),(7,7),(14,7)],[.t 10,.t 11,.t
 12]⟩,MV 1 13]).seq ((C.ops [⟨some 14,none,.bslc 1 1 1 9 [.str []] [(0,1)],[.c (.str [101,115,116])]⟩,⟨some 15,none,.bslc 2 1 1 3 [i6 0] [(0,1)],[.c (i6 0)]⟩,⟨some 16,
 none,.build [.nl,.nl] [(0,1),(1,1)],[.t 14,.t 15]⟩,⟨some 17,none,.bslc 3 1 1 3 [i6 0] [(0,1)],[.c (i6 1)]⟩,⟨some 18,none,.build [.nl,.nl] [(1,1)],[.t 17]⟩,⟨some
 19,none,.bslc 4 2 2 89 [.nl,.nl] [(0,2),(2,2)],[.t 16,.t 18]⟩,⟨some 20,none,.build [i6 0,i6 0,.nl] [(0,1),(1,1),(2,1)],[.c (i6 1),.c (i6 2),.t 19]⟩,⟨some 21,
 none,.bslc 5 3 1 83 [i6 0,i6 0,.nl] [(0,3)],[.t 20]⟩,MV 2 21]).seq ((C.ops [ON 23 (.call 97 true) [],MV 24 2,⟨some 25,none,.bslc 6 1 2 9 [.str []] [(0,1),(1,1)],[.c
 (.str [98,97,115,101]),.c (.str [111,109,105,115,115,105,111,110])]⟩,⟨some 26,none,.bslc 7 1 1 22 [.nl] [(0,1)],[.t 25]⟩,MV 27 1,⟨some 28,none,.bslc 8 1 1 9
 [.str []] [(0,1)],[.c (.str [111,109,105,115,115,105,111,110])]⟩,⟨some 29,none,.bslc 9 1 1 4 [.bool false] [(0,1)],[.c (.bool true)]⟩,ON 30 (.call 96 false) [.t 23,
 .t 24,.t 26,.t 27,.c .nl,.t 28,.t 29],MV 22 30,O1 31 (.ext 0) 22,O1 32 (.ext 1) 22,MV 3 31,MV 4 32]).seq ((C.ops [⟨some 33,none,.bslc 10 1 1 9 [.str []] [(0,1)],[.c
 (.str [65])]⟩,⟨some 34,none,.bslc 11 1 1 9 [.str []] [(0,1)],[.c (.str [66])]⟩,⟨some 35,none,.build [.nl,.nl] [(1,1)],[.t 34]⟩,⟨some 36,none,.bslc 12 2 1 85 [.nl,
 .nl] [(0,2)],[.t 35]⟩,⟨some 37,none,.build [i6 0,i6 0,i6 0,.bool false,.nl,.nl] [(1,1),(2,1),(3,1),(4,1),(5,1)],[.c (i6 1),.c (i6 2),.c (.bool true),.t 33,
 .t 36]⟩,⟨some 38,none,.bslc 13 6 1 58 [i6 0,i6 0,i6 0,.bool false,.nl,.nl] [(0,6)],[.t 37]⟩,MV 5 38]).seq ((C.ops [⟨some 40,none,.bslc 14 1 3 9 [.str []] [(0,1),(1,
 1),(2,1)],[.c (.str [97,32,98]),.c (.str [99]),.c (.str [100])]⟩,OC 41 (.call 27 true) 40 (.str [120]),MV 39 41,O1 42 (.ext 0) 39,O1 43 (.ext 1) 39,MV 6 42,MV 7
 43]).seq ((C.ops [⟨some 45,none,.bslc 15 1 3 9 [.str []] [(0,1),(1,1),(2,1)],[.c (.str [97,32,98]),.c (.str [99]),.c (.str [100])]⟩,OC 46 (.call 27 true) 45 (.str
 [98]),MV 44 46,O1 47 (.ext 0) 44,O1 48 (.ext 1) 44,MV 8 47,MV 9 48]).seq ((C.ops [MV 49 4,MV 50 7,MV 51 9,ON 52 (.mm true) [.t 49,.t 50,.t 51],BC 53 .eql 52 (i6 0),MV
 54 53,MG 55 54 true 3,MG 56 54 true 5,P2 57 54 true (.call 29 true) 55 56,PF 58 54 57,MV 59 58,MG 60 59 true 6,PC 61 59 true (.bin .eql) 60 (i6 2),PF 62 59 61,MV 63 62,MG
 64 63 true 8,PC 65 63 true (.bin .eql) 64 (i6 0),PF 66 63 65,MV 0 66]).seq
 C.ret))))))))
theorem qxH:qL Tryz.prog 24 67 16 [RV.tmp 0] qyP:=fi Tryz.f24 [13,14,15,17,19,21,25,26,28,29,33,34,36,38,40,45] qrk [] (by kernel_rfl) (by kernel_rfl) (by kernel_rfl) (by kernel_rfl)
end
section
open Go Go.Proofs AF HY LN
namespace RC
set_option maxHeartbeats 16000000
theorem il1 {f g:Nat→List AV} (h:f 0=g 0):ILe (.sl 1 f) (.sl 1 g):=ILe.sl_eq fun i hi=>by
 obtain rfl:i=0:=by omega
 exact h
theorem il2 {f g:Nat→List AV} (h0:f 0=g 0) (h1:f 1=g 1):ILe (.sl 2 f) (.sl 2 g):=ILe.sl_eq fun i hi=>by
 match i,hi with
 |0,_=>exact h0
 |1,_=>exact h1
 |n+2,hi=>exact absurd hi (by omega)
theorem il3 {f g:Nat→List AV} (h0:f 0=g 0) (h1:f 1=g 1) (h2:f 2=g 2):ILe (.sl 3 f) (.sl 3 g):=ILe.sl_eq fun i hi=>by
 match i,hi with
 |0,_=>exact h0
 |1,_=>exact h1
 |2,_=>exact h2
 |n+3,hi=>exact absurd hi (by omega)
theorem im1 {f g:Nat→List AV} (h:qbx (f 0) (g 0)):ILe (.sl 1 f) (.sl 1 g):=ILe.sl fun i hi=>by
 obtain rfl:i=0:=by omega
 exact h
theorem im2 {f g:Nat→List AV} (h0:qbx (f 0) (g 0)) (h1:qbx (f 1) (g 1)):ILe (.sl 2 f) (.sl 2 g):=ILe.sl fun i hi=>by
 match i,hi with
 |0,_=>exact h0
 |1,_=>exact h1
 |n+2,hi=>exact absurd hi (by omega)
theorem vl1 {f g:Nat→List AV} (h:qbx (f 0) (g 0)):VLe (.sl 1 f) (.sl 1 g):=VLe.sl fun i hi=>by
 obtain rfl:i=0:=by omega
 exact h
theorem vl2 {f g:Nat→List AV} (h0:qbx (f 0) (g 0)) (h1:qbx (f 1) (g 1)):VLe (.sl 2 f) (.sl 2 g):=VLe.sl fun i hi=>by
 match i,hi with
 |0,_=>exact h0
 |1,_=>exact h1
 |n+2,hi=>exact absurd hi (by omega)
theorem vl3 {f g:Nat→List AV} (h0:qbx (f 0) (g 0)) (h1:qbx (f 1) (g 1)) (h2:qbx (f 2) (g 2)):VLe (.sl 3 f) (.sl 3 g):=VLe.sl fun i hi=>by
 match i,hi with
 |0,_=>exact h0
 |1,_=>exact h1
 |2,_=>exact h2
 |n+3,hi=>exact absurd hi (by omega)
theorem ie {a b:AV} (h:a=b):ILe a b:=by rw [h];exact ILe.refl _
theorem qyi (s:Str) (h:List AObj):ACalls Tryz.prog 163 [.str s] h (.agg (tkC (tkS s))) h:=by
 unfold tkS tkC
 refine acO quy ?_
 simp (disch:=omega) only [qth,List.replicate,go_sem]
 repeat' first
  |((first|apply qd|apply qb);exact rvk;simp only [go_sem];first|exact VLe.refl _|apply qe|apply qa|apply qf|skip)
  |with_reducible first|apply And.intro|intro _
 all_goals try exact clz
theorem qsJ:qxT xAp=false:=by decide+kernel
theorem qAi:qxl xAp:=qrc qsJ
theorem qyf (h:List AObj):ACalls Tryz.prog 97 [] h (.agg (coC xCo)) h:=by
 have c1:=fun s h=>qyi s h
 unfold tkC tkS at c1
 refine acO qxQ ?_
 simp (disch:=omega) only [qyU,List.replicate,go_sem]
 repeat' first
  |((first|refine cA (c1 qcR _) ?_ ?_|refine cG (fun e=>c1 qcR _) ?_ ?_|refine cA (c1 qsV _) ?_ ?_|refine cG (fun e=>c1 qsV _) ?_ ?_|refine cA (c1 qaA _) ?_ ?_|refine cG (fun e=>c1 qaA _) ?_ ?_|refine cA (c1 qcR _) ?_ ?_|refine cG (fun e=>c1 qcR _) ?_ ?_|refine cA (c1 qaA _) ?_ ?_|refine cG (fun e=>c1 qaA _) ?_ ?_|refine cU (fun _=>c1 qcR _) ?_ ?_|refine cU (fun _=>c1 qsV _) ?_ ?_|refine cU (fun _=>c1 qaA _) ?_ ?_|refine cU (fun _=>c1 qcR _) ?_ ?_|refine cU (fun _=>c1 qaA _) ?_ ?_);(next=>exact flk);simp (disch:=omega) only [go_sem])
  |((first|apply qd|apply qb);exact rvk;simp only [go_sem];first|exact VLe.refl _|apply qe|apply qa|apply qf|skip)
  |with_reducible first|apply And.intro|intro _
 all_goals try exact clz
 refine VLe.agg ⟨VLe.refl _,vl2 ⟨ie rfl,trivial⟩ ⟨ie rfl,trivial⟩,vl2 ⟨?a1,trivial⟩ ⟨?a2,trivial⟩,vl3 ⟨?a3,trivial⟩ ⟨?a4,trivial⟩ ⟨?a5,trivial⟩,trivial⟩
 case a1=>simp only [go_sem];exact il3 rfl rfl rfl
 case a2=>simp only [go_sem];exact il2 rfl rfl
 case a3=>simp only [go_sem];exact il2 rfl rfl
 case a4=>simp only [go_sem];exact il2 rfl rfl
 case a5=>simp only [go_sem];exact il2 rfl rfl
theorem qxr (h:List AObj) (hp:qaZ SG h):ACalls Tryz.prog 24 [] h (.bool true) h:=by
 have c1:=fun h=>qyf h
 refine acO qxH ?_
 simp (disch:=omega) only [qyP,List.replicate,go_sem]
 repeat' first
  |((first|refine cA (c1 _) ?_ ?_|refine cG (fun e=>c1 _) ?_ ?_|refine cU (fun _=>c1 _) ?_ ?_);(next=>exact flk);simp (disch:=omega) only [go_sem])
  |((first|apply qd|apply qb);exact rvk;simp only [go_sem];first|exact VLe.refl _|apply qe|apply qa|apply qf|skip)
  |with_reducible first|apply And.intro|intro _
 all_goals try exact clz
 have zm:valP (.mm true) [.int .i64 0,.int .i64 0,.int .i64 0]= .int .i64 0:=rfl
 have zn:okP (.mm true) [.int .i64 0,.int .i64 0,.int .i64 0]=True:=eq_true (by simp [okP,kE])
 have c2:=fun l=>qzA xAp (h++l) qAi (hp.app l)
 rw [qyI,qyJ]at c2
 refine qiz (r:= .tup [qbh xEn,.int .i64 0]) (h':=h++ [.emp 2,.emp 2,.emp 2,.emp 2,.emp 2,.emp 2,.emp 2,.emp 2,.emp 2,.emp 2,.emp 0,.emp 0,.emp 0,.emp 0,.emp 0,.emp 0])
  (qzG [h.length,h.length+1,h.length+2,h.length+3,h.length+4,h.length+5,h.length+6,h.length+7,h.length+8,h.length+9] (by simp only [j8,go_sem]) ?c) (by exact flk) ?_
 case c=>
  simp only [qcH,go_sem]
  refine ACalls.le (c2 _) ?_ (VLe.refl _)
  obtain ⟨fz,hfz⟩: ∃fz:Nat→Bool,fz=fun k=> [h.length,h.length+1,h.length+2,h.length+3,h.length+4,h.length+5,h.length+6,h.length+7,h.length+8,h.length+9].contains k:=⟨_,rfl⟩
  rw [←hfz]
  have f0:fz h.length=true:=by rw [hfz];simp
  have f1:fz (h.length+1)=true:=by rw [hfz];simp
  have f2:fz (h.length+2)=true:=by rw [hfz];simp
  have f3:fz (h.length+3)=true:=by rw [hfz];simp
  have f4:fz (h.length+4)=true:=by rw [hfz];simp
  have f5:fz (h.length+5)=true:=by rw [hfz];simp
  have f6:fz (h.length+6)=true:=by rw [hfz];simp
  have f7:fz (h.length+7)=true:=by rw [hfz];simp
  have f8:fz (h.length+8)=true:=by rw [hfz];simp
  have f9:fz (h.length+9)=true:=by rw [hfz];simp
  have g0:([h.length,h.length+1,h.length+2,h.length+3,h.length+4,h.length+5,h.length+6,h.length+7,h.length+8,h.length+9]:List Nat).contains h.length=true:=by simp
  have g1:([h.length,h.length+1,h.length+2,h.length+3,h.length+4,h.length+5,h.length+6,h.length+7,h.length+8,h.length+9]:List Nat).contains (h.length+1)=true:=by simp
  have g2:([h.length,h.length+1,h.length+2,h.length+3,h.length+4,h.length+5,h.length+6,h.length+7,h.length+8,h.length+9]:List Nat).contains (h.length+2)=true:=by simp
  have g3:([h.length,h.length+1,h.length+2,h.length+3,h.length+4,h.length+5,h.length+6,h.length+7,h.length+8,h.length+9]:List Nat).contains (h.length+3)=true:=by simp
  have g4:([h.length,h.length+1,h.length+2,h.length+3,h.length+4,h.length+5,h.length+6,h.length+7,h.length+8,h.length+9]:List Nat).contains (h.length+4)=true:=by simp
  have g5:([h.length,h.length+1,h.length+2,h.length+3,h.length+4,h.length+5,h.length+6,h.length+7,h.length+8,h.length+9]:List Nat).contains (h.length+5)=true:=by simp
  have g6:([h.length,h.length+1,h.length+2,h.length+3,h.length+4,h.length+5,h.length+6,h.length+7,h.length+8,h.length+9]:List Nat).contains (h.length+6)=true:=by simp
  have g7:([h.length,h.length+1,h.length+2,h.length+3,h.length+4,h.length+5,h.length+6,h.length+7,h.length+8,h.length+9]:List Nat).contains (h.length+7)=true:=by simp
  have g8:([h.length,h.length+1,h.length+2,h.length+3,h.length+4,h.length+5,h.length+6,h.length+7,h.length+8,h.length+9]:List Nat).contains (h.length+8)=true:=by simp
  have g9:([h.length,h.length+1,h.length+2,h.length+3,h.length+4,h.length+5,h.length+6,h.length+7,h.length+8,h.length+9]:List Nat).contains (h.length+9)=true:=by simp
  clear hfz
  simp only [go_sem,coC,List.map_cons,List.map_nil,f0,f1,f2,f3,f4,f5,f6,f7,f8,f9,g0,g1,g2,g3,g4,g5,g6,g7,g8,g9,if_true]
  refine ⟨VLe.refl _,vl1 ⟨ie rfl,ie rfl,?b1,trivial⟩,vl1 ⟨?b2,trivial⟩,VLe.sl_eq rfl (fun i hi=> ?b3),kj,VLe.sl_eq rfl (fun i hi=> ?b4),VLe.sl_eq rfl (fun i hi=> ?b5),trivial⟩
  case b1=>
   simp only [go_sem,f0,f1,f2,f3,f4,f5,f6,f7,f8,f9,g0,g1,g2,g3,g4,g5,g6,g7,g8,g9,if_true]
   refine im2 ⟨?u1,?u2,trivial⟩ ⟨ILe.nl,?u3,trivial⟩
   all_goals
    simp only [go_sem,f0,f1,f2,f3,f4,f5,f6,f7,f8,f9,g0,g1,g2,g3,g4,g5,g6,g7,g8,g9,if_true]
    exact il1 rfl
  case b2=>
   simp only [go_sem,f0,f1,f2,f3,f4,f5,f6,f7,f8,f9,g0,g1,g2,g3,g4,g5,g6,g7,g8,g9,if_true]
   exact il2 rfl rfl
  case b3=>
   match i,hi with
   |0,_=>rfl
   |1,_=>rfl
   |2,_=>rfl
   |n+3,hi=>exact absurd hi (by omega)
  case b4=>
   obtain rfl:i=0:=by omega
   rfl
  case b5=>
   obtain rfl:i=0:=by omega
   rfl
 simp (disch:=omega) only [go_sem]
 repeat' first
  |((first|apply qd|apply qb);exact rvk;simp only [go_sem];first|exact VLe.refl _|apply qe|apply qa|apply qf|skip)
  |with_reducible first|apply And.intro|intro _
 all_goals try exact clz
 have lz: ∀i,(xL3.getD i []).length≤100000000:=qU xL3 (fun s=>s.length≤100000000) (by decide) (by decide)
 refine cA (r:= .tup [.int .i64 2,.int .i64 0]) ?d (by exact flk) ?_
 case d=>
  have c2:=lyP xL3 [120] [] (by decide) lz
  rw [qsK.1,qsK.2]at c2
  refine ACalls.borrow (c2.le ?_ (VLe.refl _)) (by simp [qak,jg])
  simp only [List.map_cons,List.map_nil,go_sem]
  exact ⟨VLe.sl_eq rfl (fun i hi=>by
   match i,hi with
   |0,_=>rfl
   |1,_=>rfl
   |2,_=>rfl
   |n+3,hi=>exact absurd hi (by omega)),VLe.refl _,trivial⟩
 simp (disch:=omega) only [go_sem]
 repeat' first
  |((first|apply qd|apply qb);exact rvk;simp only [go_sem];first|exact VLe.refl _|apply qe|apply qa|apply qf|skip)
  |with_reducible first|apply And.intro|intro _
 all_goals try exact clz
 refine cA (r:= .tup [.int .i64 0,.int .i64 0]) ?e (by exact flk) ?_
 case e=>
  have c2:=lyP xL3 [98] [] (by decide) lz
  rw [qyK,qsK.2]at c2
  refine ACalls.borrow (c2.le ?_ (VLe.refl _)) (by simp [qak,jg])
  simp only [List.map_cons,List.map_nil,go_sem]
  exact ⟨VLe.sl_eq rfl (fun i hi=>by
   match i,hi with
   |0,_=>rfl
   |1,_=>rfl
   |2,_=>rfl
   |n+3,hi=>exact absurd hi (by omega)),VLe.refl _,trivial⟩
 simp (disch:=omega) only [zm,zn,go_sem]
 repeat' first
  |((first|apply qd|apply qb);exact rvk;simp only [go_sem];first|exact VLe.refl _|apply qe|apply qa|apply qf|skip)
  |with_reducible first|apply And.intro|intro _
 all_goals try exact clz
 have xz:EqZ xEn:=by
  refine ⟨by decide,?_,?_,?_,?_⟩
  ·exact qU xEn (fun e=>e.sup.length≤1000000000) (by decide) (by decide)
  ·exact qU xEn (fun e=>e.vars.length≤1000000000) (by decide) (by decide)
  ·exact qU xEn (fun e=> ∀j,(e.vars.getD j default).words.length≤1000000000) (fun j=>by simp [show (default:En).vars= []from rfl,show (default:Va).words= []from rfl]) fun i hi=>by
    obtain rfl:i=0:=by have:xEn.length=1:=rfl;omega
    exact qU _ (fun v:Va=>v.words.length≤1000000000) (by decide) (by decide)
  ·exact qU xEn (fun e=> ∀j,(e.vars.getD j default).sigla.length≤1000000000) (fun j=>by simp [show (default:En).vars= []from rfl,show (default:Va).sigla= []from rfl]) fun i hi=>by
    obtain rfl:i=0:=by have:xEn.length=1:=rfl;omega
    exact qU _ (fun v:Va=>v.sigla.length≤1000000000) (by decide) (by decide)
 refine cG (fun _=>ACalls.borrow ((qz0 xEn [] xz).le ?g1 (VLe.refl _)) rfl) (fun _=>by exact flk) ?_
 case g1=>
  simp only [List.map_cons,List.map_nil,go_sem]
  refine ⟨VLe.refl _,vl1 ⟨ie rfl,ie rfl,ie rfl,ie rfl,?h1,?h2,trivial⟩,trivial⟩
  case h1=>simp only [go_sem,if_true];exact il1 rfl
  case h2=>
   simp only [go_sem,if_true]
   refine im1 ⟨ILe.nl,?h3,trivial⟩
   simp only [go_sem,if_true]
   exact il1 rfl
 simp (disch:=omega) only [go_sem]
 repeat' first
  |((first|apply qd|apply qb);exact rvk;simp only [go_sem];first|exact VLe.refl _|apply qe|apply qa|apply qf|skip)
  |with_reducible first|apply And.intro|intro _
 all_goals try exact clz
end RC
end
section
open Go Go.Proofs AF
def qrl:List Nat:= []
def c6s:C:=
 ((C.ops [MC 4 (.bool false)]).seq (((C.ops [MV 11 0,O1 12 .len 11,BC 13 .gtr 12 (i6 14)]).seq (C.cond (.t 13) ((C.ops [ON 14 (.call 24 true) [],MV 4 14]).seq C.ret) C.skip)).seq
 ((C.ops [MV 16 0,MV 17 1,O2 18 (.call 31 true) 16 17,MV 15 18,O1 19 (.ext 0) 15,O1 20 (.ext 1) 15,O1 21 (.ext 2) 15,MV 5 19,MV 6 20,MV 7 21]).seq ((C.ops [ON 8 (.nilo 0 1
 3) []]).seq (((C.ops [MV 22 0,O1 23 .len 22,MC 24 (i6 0)]).seq (C.block 0 ((C.ops [BI 25 .lss 24 23]).seq ((C.cond (.t 25) C.skip (C.exit 0)).seq ((C.block 1 ((C.ops [MV 26 24,
 O2 27 (.idxA 7) 22 24,O1 28 (.load (some 7)) 27,⟨some 10,none,.alloc 1 64 [.str [],i6 0,i6 0,i6 0,.bool false,.bool false,.str []],[]⟩,MV 9 26,ST 7 10 28]).seq ((C.ops
 [O1 29 (.fldA 2) 10,LD 30 29,MV 31 1,BI 32 .eql 30 31]).seq (C.cond (.t 32) (C.ops [MV 33 8,MV 34 9,⟨some 35,none,.bslc 2 1 1 3 [i6 0] [(0,1)],[.t 34]⟩,O2 36 (.app 3 1 3
 8) 33 35,MV 8 36]) C.skip)))).seq (C.ops [BC 37 .add 24 (i6 1),MV 24 37])))).loop)).seq ((C.block 2 ((C.ops [MV 39 8,O1 40 .len 39,BC 41 .eql 40 (i6 0),MV 38 41]).seq (C.cond
 (.t 38) ((C.ops [MV 42 7,BC 43 .eql 42 (i6 6),MV 44 43,MG 45 44 true 5,PC 46 44 true (.bin .eql) 45 (i6 0),PF 47 44 46,MV 48 47,MG 49 48 true 6,PC 50 48 true (.bin .eql) 49
 (i6 0),PF 51 48 50,MV 52 51,PN 53 52 true (.call 24 true) [],PF 54 52 53,MV 4 54]).seq C.ret) ((C.ops [MV 56 8,MV 57 8,O1 58 .len 57,BC 59 .sub 58 (i6 1),O2 60 (.idxA 1)
 56 59,LD 61 60,MV 62 8,OC 63 (.idxA 1) 62 (i6 0),LD 64 63,BI 65 .sub 61 64,MV 66 8,O1 67 .len 66,BC 68 .sub 67 (i6 1),BI 69 .neq 65 68,MV 55 69]).seq (C.cond (.t 55)
 ((C.ops [MV 70 7,BC 71 .eql 70 (i6 10),MV 72 71,MG 73 72 true 5,PC 74 72 true (.bin .eql) 73 (i6 0),PF 75 72 74,MV 76 75,MG 77 76 true 6,PC 78 76 true (.bin .eql) 77 (i6
 0),PF 79 76 78,MV 80 79,PN 81 80 true (.call 24 true) [],PF 82 80 81,MV 4 82]).seq C.ret) C.skip))))).seq ((C.ops [MV 83 7,BC 84 .eql 83 (i6 0),MV 85 84,MG 86 85 true 5,MG
 87 85 true 8,PC 88 85 true (.idxA 1) 87 (i6 0),P1 89 85 true (.load none) 88,P2 90 85 true (.bin .eql) 86 89,PF 91 85 90,MV 92 91,MG 93 92 true 6,MG 94 92 true 8,MG 95 92
 true 8,P1 96 92 true .len 95,PC 97 92 true (.bin .sub) 96 (i6 1),P2 98 92 true (.idxA 1) 94 97,P1 99 92 true (.load none) 98,PC 100 92 true (.bin .add) 99 (i6 1),P2 101 92
 true (.bin .eql) 93 100,PF 102 92 101,MV 103 102,PN 104 103 true (.call 24 true) [],PF 105 103 104,MV 4 105]).seq
 C.ret)))))))
theorem qyY:qL Tryz.prog 6 106 4 [RV.tmp 4] c6s:=fi Tryz.f6 [8,10,35,36] qrl [] (by kernel_rfl) (by kernel_rfl) (by kernel_rfl) (by kernel_rfl)
end
section
open Go Go.Proofs AF HY LN
namespace RC
set_option maxHeartbeats 16000000
theorem qnu {q:Nat→Bool} {n i:Nat} (hi:i<(zA q n).length):0≤(zA q n).getD i 0∧(zA q n).getD i 0<n:=by
 rw [gdqA,zM hi]
 have hm:=List.getElem_mem hi
 obtain ⟨x,hx⟩: ∃x,x=(zA q n)[i]:=⟨_,rfl⟩
 rw [←hx]at hm
 simp only [Option.getD_some,←hx]
 unfold zA at hm
 obtain ⟨k,hk,rfl⟩:=List.mem_map.1 hm
 have:=List.mem_range.1 (List.mem_filter.1 hk).1
 exact ⟨Int.natCast_nonneg _,by show (k:Int)<n;omega⟩
theorem qzO (b:List Wd) (u:Int) (h:List AObj) (hp:qaZ SG h) (hn:b.length≤9223372036854775807):ACalls Tryz.prog 6 [qN b,.int .i64 u] h (.bool true) h:=by
 have c44:=fun l=>qxr (h++l) (hp.app l)
 by_cases g0:14<b.length
 ·have k0:((14:Int)<b.length)=True:=eq_true (by omega)
  refine acO qyY ?_
  simp (disch:=omega) only [c6s,List.replicate,qN,k0,go_sem]
  repeat' first
   |((first|refine cA (c44 _) ?_ ?_|refine cG (fun e=>c44 _) ?_ ?_|refine cU (fun _=>c44 _) ?_ ?_);(next=>exact flk);simp (disch:=omega) only [qN,k0,go_sem])
   |((first|apply qd|apply qb);exact rvk;simp only [go_sem];first|exact VLe.refl _|apply qe|apply qa|apply qf|skip)
   |with_reducible first|apply And.intro|intro _
  all_goals try exact clz
 have k0:((14:Int)<b.length)=False:=eq_false (by omega)
 have c1:=fun h=>qy9 b u h (by omega)
 obtain ⟨p1,p2⟩:=qwh (inU b u) b.length
 obtain ⟨E,hE⟩: ∃E,E=qcW (inU b u) b.length:=⟨_,rfl⟩
 obtain ⟨F,hF⟩: ∃F,F=qlX (inU b u) b.length:=⟨_,rfl⟩
 obtain ⟨T,hT⟩: ∃T,T=qlY (inU b u) b.length:=⟨_,rfl⟩
 have hz:E≠0→F=0∧T=0:=fun hx=>by
  rw [hF,hT]
  unfold qlX qlY
  rw [←hE,if_neg hx,if_neg hx]
  exact ⟨rfl,rfl⟩
 rw [←hE]at p1 p2
 rw [←hF,←hT]at p2
 simp only [←hE,←hF,←hT]at c1
 unfold qN wdC at c1
 refine acO qyY ?_
 simp (disch:=omega) only [c6s,List.replicate,qN,wdC,k0,go_sem]
 repeat' first
  |((first|refine cA (c1 _) ?_ ?_|refine cG (fun e=>c1 _) ?_ ?_|refine cU (fun _=>c1 _) ?_ ?_);(next=>exact flk);simp (disch:=omega) only [qN,wdC,k0,go_sem])
  |((first|apply qd|apply qb);exact rvk;simp only [go_sem];first|exact VLe.refl _|apply qe|apply qa|apply qf|skip)
  |with_reducible first|apply And.intro|intro _
 all_goals try exact clz
 refine qv (T:=fun i:Nat×Nat×AObj×AObj=>qQ 106 [(1,.int .i64 u),(5,.int .i64 F),(6,.int .i64 T),(7,.int .i64 E),(8,.osl h.length i.2.1 1 0 (zA (inU b u) i.1).length),(22,qN b),(23,.int .i64 b.length),(24,.int .i64 i.1)])
  (H:=fun i=>h++ [zC i.2.1 3 (qC (zA (inU b u) i.1)),i.2.2.1,i.2.2.2,.emp 0])
  (inv:=fun i=>i.1≤b.length∧qE [i.2.2.1] 0=true∧qE [i.2.2.2] 0=true) (m:=fun i=>b.length-i.1) (0,1,.emp 0,.emp 0) ⟨Nat.zero_le _,rfl,rfl⟩ (Wk.temps ?_) ?_
 ·(simp only [zA,List.range_zero,List.filter_nil,List.length_nil,List.map_nil,List.replicate,qN,wdC,go_sem,qk,qi,qg,qj];try (repeat' first|(with_reducible apply And.intro)|(apply qe;omega)|(apply qa;rfl)|exact VLe.refl _))
 rintro ⟨i,v,O1,O2⟩ ⟨i1,i2,i3⟩ K hK
 simp only at i1 i2 i3 hK
 have i2': ∀m,qE (O1::m) 0=true:=fun _=>i2
 have i3': ∀m,qE (O2::m) 0=true:=fun _=>i3
 have hst:=zY (inU b u) i
 have hln:=jA (inU b u) i
 by_cases hi:i<b.length
 ·have k1:((i:Int)<b.length)=True:=eq_true (by omega)
  have hq:inU b u i=decide ((b.getD i default).unit=u):=rfl
  obtain ⟨L,hL⟩: ∃L,L=zA (inU b u) i:=⟨_,rfl⟩
  rw [←hL]at hst hln
  have eL:=hL.symm
  have eC:=zf L
  obtain ⟨w,hw⟩: ∃w,w=b.getD i default:=⟨_,rfl⟩
  have ew:=hw.symm
  rw [ew]at hq
  have eTk:List.take L.length (qC L)=qC L:=List.take_of_length_le (by omega)
  by_cases g1:w.unit=u
  ·have k2:(w.unit=u)=True:=eq_true g1
   rw [hq,decide_eq_true g1,if_pos rfl]at hst
   simp (disch:=omega) only [List.replicate,qN,wdC,k1,k2,ew,eL,i2',i3',eC,eTk,Nat.mul_one,go_sem]
   repeat' first
    |((first|apply qd|apply qb);exact rvk;simp only [go_sem];first|exact VLe.refl _|apply qe|apply qa|apply qf|skip)
    |with_reducible first|apply And.intro|intro _
   all_goals try exact clz
   have eA:qC L++ [AV.int .i64 (i:Int)]=qC (zA (inU b u) (i+1)):=by rw [hst,zX];rfl
   try rw [eA]
   refine hK _ _ (i+1,v+1,.mem (qr (some O1)+1) 64 (wdC w),.mem (qr (some O2)+1) 3 [.int .i64 (i:Int)]) ⟨hi,rfl,rfl⟩ (by simp only;omega) ?_
   simp only [hst,List.length_append,List.length_cons,List.length_nil,wdC]
   refine Wk.temps ?_
   (simp only [List.replicate,qN,wdC,go_sem,qk,qi,qg,qj];try (repeat' first|(with_reducible apply And.intro)|(apply qe;omega)|(apply qa;rfl)|exact VLe.refl _))
  ·have k2:(w.unit=u)=False:=eq_false g1
   rw [hq,decide_eq_false g1,if_neg (by simp),List.append_nil]at hst
   simp (disch:=omega) only [List.replicate,qN,wdC,k1,k2,ew,eL,i2',i3',go_sem]
   repeat' first
    |((first|apply qd|apply qb);exact rvk;simp only [go_sem];first|exact VLe.refl _|apply qe|apply qa|apply qf|skip)
    |with_reducible first|apply And.intro|intro _
   all_goals try exact clz
   refine hK _ _ (i+1,v,.mem (qr (some O1)+1) 64 (wdC w),O2) ⟨hi,rfl,i3⟩ (by simp only;omega) ?_
   simp only [hst,wdC]
   refine Wk.temps ?_
   (simp only [List.replicate,qN,wdC,go_sem,qk,qi,qg,qj];try (repeat' first|(with_reducible apply And.intro)|(apply qe;omega)|(apply qa;rfl)|exact VLe.refl _))
 have k1:((i:Int)<b.length)=False:=eq_false (by omega)
 obtain rfl:i=b.length:=by omega
 clear hK hst
 have hrg:=fun j hj=>qnu (q:=inU b u) (n:=b.length) (i:=j) hj
 obtain ⟨A,hA⟩: ∃A,A=zA (inU b u) b.length:=⟨_,rfl⟩
 rw [←hA]at p1 p2 hln
 simp only [←hA]at hrg
 have eA:=hA.symm
 by_cases g1:A.length=0
 ·have k2:((A.length:Int)=0)=True:=eq_true (by omega)
  have e1:=p1 g1
  obtain ⟨e2,e3⟩:=hz (by rw [e1];decide)
  rw [e1,e2,e3,eA]
  simp (disch:=omega) only [List.replicate,k1,k2,go_sem]
  repeat' first
   |((first|refine cA (c44 _) ?_ ?_|refine cG (fun e=>c44 _) ?_ ?_|refine cU (fun _=>c44 _) ?_ ?_);(next=>exact flk);simp (disch:=omega) only [k1,k2,go_sem])
   |((first|apply qd|apply qb);exact rvk;simp only [go_sem];first|exact VLe.refl _|apply qe|apply qa|apply qf|skip)
   |with_reducible first|apply And.intro|intro _
  all_goals try exact clz
 have k2:((A.length:Int)=0)=False:=eq_false (by omega)
 obtain ⟨p3,p4⟩:=p2 (by omega)
 have r0:=hrg 0 (by omega)
 have r1:=hrg (A.length-1) (by omega)
 have gg0:=qbJ (C:=A) (n:=0) (by omega)
 have gg1:=qbJ (C:=A) (n:=A.length-1) (by omega)
 have eC:=zf A
 obtain ⟨x,hx⟩: ∃x,x=A.getD 0 0:=⟨_,rfl⟩
 obtain ⟨y,hy⟩: ∃y,y=A.getD (A.length-1) 0:=⟨_,rfl⟩
 rw [←hx]at p3 p4 r0 gg0
 rw [←hy]at p3 p4 r1 gg1
 have hne:(qC A≠ [])=True:=eq_true fun e=>g1 (by rw [←eC,e];rfl)
 have eown:zC v 3 (qC A)= .mem v 3 (qC A):=zS (of_eq_true hne)
 have t1:((A.length:Int)-1).toNat=A.length-1:=by omega
 have t2:(0≤(A.length:Int)-1)=True:=eq_true (by omega)
 have t3:((A.length:Int)-1<A.length)=True:=eq_true (by omega)
 have t4:((0:Int)<A.length)=True:=eq_true (by omega)
 have b1:(y-x≤9223372036854775807)=True:=eq_true (by omega)
 have b2:(-9223372036854775808≤y-x)=True:=eq_true (by omega)
 have b3:(y+1≤9223372036854775807)=True:=eq_true (by omega)
 have b4:(-9223372036854775808≤y+1)=True:=eq_true (by omega)
 have t5:(A.length-1<A.length)=True:=eq_true (by omega)
 have t6:(A.length-1+1≤A.length)=True:=eq_true (by omega)
 have t7:(0<A.length)=True:=eq_true (by omega)
 rw [eA,eown]
 by_cases g2:y-x=(A.length:Int)-1
 ·have k3:(y-x=(A.length:Int)-1)=True:=eq_true g2
  obtain ⟨e1,e2,e3⟩:=p4 g2
  rw [e1,e2,e3]
  simp (disch:=omega) only [List.replicate,k1,k2,k3,t1,t2,t3,t4,t5,t6,t7,b1,b2,b3,b4,gg0,gg1,eC,Option.getD_some,Option.isSome_some,Nat.mul_one,Nat.zero_add,Int.toNat_zero,go_sem]
  repeat' first
   |((first|refine cA (c44 _) ?_ ?_|refine cG (fun e=>c44 _) ?_ ?_|refine cU (fun _=>c44 _) ?_ ?_);(next=>exact flk);simp (disch:=omega) only [k1,k2,k3,t1,t2,t3,t4,t5,t6,t7,b1,b2,b3,b4,gg0,gg1,eC,Option.getD_some,Option.isSome_some,Nat.mul_one,Nat.zero_add,Int.toNat_zero,go_sem])
   |((first|apply qd|apply qb);exact rvk;simp only [go_sem];first|exact VLe.refl _|apply qe|apply qa|apply qf|skip)
   |with_reducible first|apply And.intro|intro _
  all_goals try exact clz
 ·have k3:(y-x=(A.length:Int)-1)=False:=eq_false g2
  have e1:=p3 g2
  obtain ⟨e2,e3⟩:=hz (by rw [e1];decide)
  rw [e1,e2,e3]
  simp (disch:=omega) only [List.replicate,k1,k2,k3,t1,t2,t3,t4,t5,t6,t7,b1,b2,b3,b4,gg0,gg1,eC,Option.getD_some,Option.isSome_some,Nat.mul_one,Nat.zero_add,Int.toNat_zero,go_sem]
  repeat' first
   |((first|refine cA (c44 _) ?_ ?_|refine cG (fun e=>c44 _) ?_ ?_|refine cU (fun _=>c44 _) ?_ ?_);(next=>exact flk);simp (disch:=omega) only [k1,k2,k3,t1,t2,t3,t4,t5,t6,t7,b1,b2,b3,b4,gg0,gg1,eC,Option.getD_some,Option.isSome_some,Nat.mul_one,Nat.zero_add,Int.toNat_zero,go_sem])
   |((first|apply qd|apply qb);exact rvk;simp only [go_sem];first|exact VLe.refl _|apply qe|apply qa|apply qf|skip)
   |with_reducible first|apply And.intro|intro _
  all_goals try exact clz
end RC
end
