import Derived.Test.YtgoandblgcjleaaGreatDoorK14
import Derived.Test.YtgoandblgcjleaaGreatDoorK10
import Derived.Test.YtgoandblgcjleaaGreatDoorK11
import Derived.Test.YtgoandblgcjleaaGreatDoorK9
import Derived.Test.YtgoandblgcjleaaGreatDoorK8
import Derived.Test.YtgoandblgcjleaaGreatDoorK3
import Derived.Test.YtgoandblgcjleaaGreatDoorK5
import Derived.Test.YtgoandblgcjleaaGreatDoorProg
import Derived.Test.YtgoandblgcjleaaGreatDoorRows
import Derived.LaidLaws
set_option linter.all false
set_option linter.unusedSimpArgs false
set_option linter.unusedVariables false
set_option linter.unusedSectionVars false
set_option maxRecDepth 100000
section
open Go Go.Proofs AF HY LN
namespace RC
set_option maxHeartbeats 32000000
structure ES where
 i:Nat
 v:Nat
 O6:AObj
 O7:AObj
 O8:AObj
 O9:AObj
 e10:Nat
 O11:AObj
 O12:AObj
 O13:AObj
 e14:Nat
 O15:AObj
theorem qgU (L:List Va) (n:Nat): ∀c∈qdj L,jg n c=true:=by
 intro c hc
 unfold qdj at hc
 obtain ⟨x,_,hx⟩:=List.mem_flatMap.1 hc
 simp only [vaC,List.mem_cons,List.not_mem_nil,or_false]at hx
 rcases hx with rfl|rfl<;>rfl
theorem qkr (a:Ap) (k y:Nat):(enU a k++enY a k y).length≤k*a.lay.length+y:=by
 have h1: ∀k n,(enY a k n).length≤n:=by
  intro k n
  induction n with
  |zero=>exact Nat.le_refl _
  |succ n ih=>
   show (enY a k n++if vrK a k n= [] then [] else [enK a k n]).length≤_
   rw [List.length_append]
   split
   ·simp only [List.length_nil];omega
   ·simp only [List.length_cons,List.length_nil];omega
 have h2: ∀n,(enU a n).length≤n*a.lay.length:=by
  intro n
  induction n with
  |zero=>exact Nat.zero_le _
  |succ n ih=>
   show (enU a n++enY a n a.lay.length).length≤_
   rw [List.length_append,Nat.add_mul,Nat.one_mul]
   have:=h1 n a.lay.length
   omega
 rw [List.length_append]
 have:=h1 k y
 have:=h2 k
 omega
structure EY where
 y:Nat
 v:Nat
 O11:AObj
 O12:AObj
 O13:AObj
 e14:Nat
 O15:AObj
theorem qBA (a:Ap) (h:List AObj) (hz:qrk a) (hp:qbh SG h):
  ACalls Tryz.prog 96 [.agg (coC a.x),qz a.l,zj a.cls,qK a.b,qE a.gs,strs a.lay,zh a.pos] h (.tup [qaH (enR a),.int .i64 (enE a)]) h:=by
 have hsz:=qqY hz.g42
 have z1:=hz.l12
 have z2:=hz.b14
 have z3:=hz.y18
 have z4:=hz.p20
 have z5:=hz.c12
 have c38:=fun l'=>pvP a.x a.l a.b (h++l') hz.co hz.un (by omega) (fun i=>by have:=hz.bt i;omega) (hp.app l')
 have c122:=fun h=>sgP a.x.sig a.gs h hsz
 have c27:=fun h=>lyP a.lay [] h (by omega) (fun i=>by have:=hz.yl i;omega)
 have nl0:VLe AV.nl (qaH []):=kj
 obtain ⟨R,hR⟩: ∃R,R=enR a:=⟨_,rfl⟩
 obtain ⟨E,hE⟩: ∃E,E=enE a:=⟨_,rfl⟩
 rw [←hR,←hE]
 unfold enR at hR
 rw [←hE]at hR
 unfold enE at hE
 unfold coC qz qK strs at c38
 unfold strs at c122 c27
 by_cases g1:pvE a.x a.l a.b=0
 case neg=>
  have k1:(pvE a.x a.l a.b=0)=False:=eq_false g1
  rw [if_pos g1]at hE
  rw [hE,if_neg g1]at hR
  rw [hR,hE]
  refine acO qhx ?_
  simp (disch:=omega) only [qrT,List.replicate,coC,qz,zj,strs,zh,qK,k1,go_sem]
  repeat' first
   |((first|refine cA (c38 _) ?_ ?_|refine cG (fun e=>c38 _) ?_ ?_|refine cU (fun _=>c38 _) ?_ ?_);(next=>exact flk);simp (disch:=omega) only [coC,qz,zj,strs,zh,qK,k1,go_sem])
   |((first|apply qd|apply qb);exact rvk;simp only [go_sem];first|exact VLe.refl _|apply qe|apply qa|apply qf|skip)
   |with_reducible first|apply And.intro|intro _
  all_goals try exact clz
  exact ke ⟨nl0,VLe.refl _,trivial⟩
 rw [if_neg (fun hc=>hc g1)]at hE
 rw [g1]at c38
 by_cases g2:sgE a.x.sig a.gs=0
 case neg=>
  have k2:(sgE a.x.sig a.gs=0)=False:=eq_false g2
  rw [if_pos g2]at hE
  rw [hE,if_neg (by decide)]at hR
  rw [hR,hE]
  refine acO qhx ?_
  simp (disch:=omega) only [qrT,List.replicate,coC,qz,zj,strs,zh,qK,k2,go_sem]
  repeat' first
   |((first|refine cA (c38 _) ?_ ?_|refine cG (fun e=>c38 _) ?_ ?_|refine cA (c122 _) ?_ ?_|refine cG (fun e=>c122 _) ?_ ?_|refine cU (fun _=>c38 _) ?_ ?_|refine cU (fun _=>c122 _) ?_ ?_);(next=>exact flk);simp (disch:=omega) only [coC,qz,zj,strs,zh,qK,k2,go_sem])
   |((first|apply qd|apply qb);exact rvk;simp only [go_sem];first|exact VLe.refl _|apply qe|apply qa|apply qf|skip)
   |with_reducible first|apply And.intro|intro _
  all_goals try exact clz
  exact ke ⟨nl0,VLe.refl _,trivial⟩
 rw [if_neg (fun hc=>hc g2)]at hE
 rw [g2]at c122
 by_cases g3:lyE a.lay=0
 case neg=>
  have k3:(lyE a.lay=0)=False:=eq_false g3
  rw [if_pos g3]at hE
  rw [hE,if_neg g3]at hR
  rw [hR,hE]
  refine acO qhx ?_
  simp (disch:=omega) only [qrT,List.replicate,coC,qz,zj,strs,zh,qK,k3,go_sem]
  repeat' first
   |((first|refine cA (c38 _) ?_ ?_|refine cG (fun e=>c38 _) ?_ ?_|refine cA (c122 _) ?_ ?_|refine cG (fun e=>c122 _) ?_ ?_|refine cA (c27 _) ?_ ?_|refine cG (fun e=>c27 _) ?_ ?_|refine cU (fun _=>c38 _) ?_ ?_|refine cU (fun _=>c122 _) ?_ ?_|refine cU (fun _=>c27 _) ?_ ?_);(next=>exact flk);simp (disch:=omega) only [coC,qz,zj,strs,zh,qK,k3,go_sem])
   |((first|apply qd|apply qb);exact rvk;simp only [go_sem];first|exact VLe.refl _|apply qe|apply qa|apply qf|skip)
   |with_reducible first|apply And.intro|intro _
  all_goals try exact clz
  exact ke ⟨nl0,VLe.refl _,trivial⟩
 rw [if_neg (fun hc=>hc g3)]at hE
 rw [g3]at c27
 by_cases g4:a.pos.length=a.lay.length
 case neg=>
  have k4:((a.pos.length:Int)=a.lay.length)=False:=eq_false (by omega)
  rw [if_pos (.inl g4)]at hE
  rw [hE,if_neg (by decide)]at hR
  rw [hR,hE]
  refine acO qhx ?_
  simp (disch:=omega) only [qrT,List.replicate,coC,qz,zj,strs,zh,qK,k4,go_sem]
  repeat' first
   |((first|refine cA (c38 _) ?_ ?_|refine cG (fun e=>c38 _) ?_ ?_|refine cA (c122 _) ?_ ?_|refine cG (fun e=>c122 _) ?_ ?_|refine cA (c27 _) ?_ ?_|refine cG (fun e=>c27 _) ?_ ?_|refine cU (fun _=>c38 _) ?_ ?_|refine cU (fun _=>c122 _) ?_ ?_|refine cU (fun _=>c27 _) ?_ ?_);(next=>exact flk);simp (disch:=omega) only [coC,qz,zj,strs,zh,qK,k4,go_sem])
   |((first|apply qd|apply qb);exact rvk;simp only [go_sem];first|exact VLe.refl _|apply qe|apply qa|apply qf|skip)
   |with_reducible first|apply And.intro|intro _
  all_goals try exact clz
  exact ke ⟨nl0,VLe.refl _,trivial⟩
 have k4:((a.pos.length:Int)=a.lay.length)=True:=eq_true (by omega)
 by_cases g5:a.cls.length=a.l.length
 case neg=>
  have k5:((a.cls.length:Int)=a.l.length)=False:=eq_false (by omega)
  rw [if_pos (.inr g5)]at hE
  rw [hE,if_neg (by decide)]at hR
  rw [hR,hE]
  refine acO qhx ?_
  simp (disch:=omega) only [qrT,List.replicate,coC,qz,zj,strs,zh,qK,k4,k5,go_sem]
  repeat' first
   |((first|refine cA (c38 _) ?_ ?_|refine cG (fun e=>c38 _) ?_ ?_|refine cA (c122 _) ?_ ?_|refine cG (fun e=>c122 _) ?_ ?_|refine cA (c27 _) ?_ ?_|refine cG (fun e=>c27 _) ?_ ?_|refine cU (fun _=>c38 _) ?_ ?_|refine cU (fun _=>c122 _) ?_ ?_|refine cU (fun _=>c27 _) ?_ ?_);(next=>exact flk);simp (disch:=omega) only [coC,qz,zj,strs,zh,qK,k4,k5,go_sem])
   |((first|apply qd|apply qb);exact rvk;simp only [go_sem];first|exact VLe.refl _|apply qe|apply qa|apply qf|skip)
   |with_reducible first|apply And.intro|intro _
  all_goals try exact clz
  exact ke ⟨nl0,VLe.refl _,trivial⟩
 have k5:((a.cls.length:Int)=a.l.length)=True:=eq_true (by omega)
 rw [if_neg (by rintro (h|h)<;>contradiction)]at hE
 refine acO qhx ?_
 simp (disch:=omega) only [qrT,List.replicate,coC,qz,zj,strs,zh,qK,k4,k5,go_sem]
 repeat' first
  |((first|refine cA (c38 _) ?_ ?_|refine cG (fun e=>c38 _) ?_ ?_|refine cA (c122 _) ?_ ?_|refine cG (fun e=>c122 _) ?_ ?_|refine cA (c27 _) ?_ ?_|refine cG (fun e=>c27 _) ?_ ?_|refine cU (fun _=>c38 _) ?_ ?_|refine cU (fun _=>c122 _) ?_ ?_|refine cU (fun _=>c27 _) ?_ ?_);(next=>exact flk);simp (disch:=omega) only [coC,qz,zj,strs,zh,qK,k4,k5,go_sem])
  |((first|apply qd|apply qb);exact rvk;simp only [go_sem];first|exact VLe.refl _|apply qe|apply qa|apply qf|skip)
  |with_reducible first|apply And.intro|intro _
 all_goals try exact clz
 have vv:(∀j,j<a.l.length→(a.cls.getD j []).length=(a.l.getD j default).rds.length)→E=0:=fun hx=>by
  rw [hE,qn.2 (fun j hj=>by rw [decide_eq_true (hx j hj)];rfl),if_neg (by simp)]
 refine qt (T:=fun i:Nat×AObj=>qU 200 [(1,qz a.l),(2,zj a.cls),(3,qK a.b),(5,strs a.lay),(6,zh a.pos),(7,.op h.length 1 0),(11,.op (h.length+1) 1 0),(14,.op (h.length+2) 1 0),(15,.op (h.length+3) 1 0),(69,qz a.l),(70,.int .i64 a.l.length),(71,.int .i64 i.1)])
  (H:=fun i=>h++ [.mem 1 26 (coC a.x),.mem 1 44 [qE a.gs],.mem 1 49 [.nl],.mem 1 35 [.int .i64 0],i.2,.emp 0,.emp 0,.emp 0,.emp 0,.emp 0,.emp 0,.emp 0,.emp 0,.emp 0,.emp 0,.emp 0,.emp 0])
  (inv:=fun i=>i.1≤a.l.length∧qI [i.2] 0=true∧ ∀j,j<i.1→(a.cls.getD j []).length=(a.l.getD j default).rds.length) (m:=fun i=>a.l.length-i.1) (0,.emp 0) ⟨Nat.zero_le _,rfl,fun j hj=>absurd hj (Nat.not_lt_zero j)⟩ (Wk.temps ?_) ?_
 ·(simp only [qz,zj,qK,strs,zh,List.replicate,go_sem,qk,qi,qg,qj];try (repeat' first|(with_reducible apply And.intro)|(apply qe;omega)|(apply qa;rfl)|exact VLe.refl _))
 rintro ⟨i,O4⟩ ⟨i1,i2,i3⟩ K hK
 simp only at i1 i2 i3 hK
 have i2': ∀m,qI (O4::m) 0=true:=fun _=>i2
 by_cases hi:i<a.l.length
 ·have k6:((i:Int)<a.l.length)=True:=eq_true (by omega)
  have k7:((i:Int)<a.cls.length)=True:=eq_true (by omega)
  have hbad: ¬(a.cls.getD i []).length=(a.l.getD i default).rds.length→E=9:=fun hx=>by
   rw [hE,qF.2 ⟨i,hi,by rw [decide_eq_false hx];rfl⟩,if_pos rfl]
  have hS:(a.cls.getD i []).length=(a.l.getD i default).rds.length→ ∀j,j<i+1→(a.cls.getD j []).length=(a.l.getD j default).rds.length:=fun hx j hj=>by
   by_cases e:j=i
   ·subst e;exact hx
   ·exact i3 j (by omega)
  obtain ⟨u,hu⟩: ∃u,u=a.l.getD i default:=⟨_,rfl⟩
  have eu:=hu.symm
  obtain ⟨c,hc⟩: ∃c,c=a.cls.getD i []:=⟨_,rfl⟩
  have ec:=hc.symm
  rw [eu,ec]at hbad hS
  by_cases g6:c.length=u.rds.length
  ·have k8:((c.length:Int)=u.rds.length)=True:=eq_true (by omega)
   simp (disch:=omega) only [List.replicate,qz,zj,strs,unC,zB,k6,k7,k8,eu,ec,i2',go_sem]
   repeat' first
    |((first|apply qd|apply qb);exact rvk;simp only [go_sem];first|exact VLe.refl _|apply qe|apply qa|apply qf|skip)
    |with_reducible first|apply And.intro|intro _
   all_goals try exact clz
   refine hK _ _ (i+1,.mem (qu (some O4)+1) 83 (unC u)) ⟨hi,rfl,hS g6⟩ (by simp only;omega) (Wk.temps ?_)
   (simp only [qz,zj,qK,strs,zh,List.replicate,go_sem,qk,qi,qg,qj];try (repeat' first|(with_reducible apply And.intro)|(apply qe;omega)|(apply qa;rfl)|exact VLe.refl _))
  ·have k8:((c.length:Int)=u.rds.length)=False:=eq_false (by omega)
   have hE9:=hbad g6
   rw [hE9,if_neg (by decide)]at hR
   rw [hR,hE9]
   simp (disch:=omega) only [List.replicate,qz,zj,strs,unC,zB,k6,k7,k8,eu,ec,i2',go_sem]
   repeat' first
    |((first|apply qd|apply qb);exact rvk;simp only [go_sem];first|exact VLe.refl _|apply qe|apply qa|apply qf|skip)
    |with_reducible first|apply And.intro|intro _
   all_goals try exact clz
   exact ke ⟨nl0,VLe.refl _,trivial⟩
 have k6:((i:Int)<a.l.length)=False:=eq_false (by omega)
 have hE0:E=0:=vv fun j hj=>i3 j (by omega)
 have hcl: ∀j,j<a.l.length→(a.cls.getD j []).length=(a.l.getD j default).rds.length:=fun j hj=>i3 j (by omega)
 rw [hE0,if_pos rfl]at hR
 rw [hR,hE0]
 clear hK hE hE0 vv hR i3
 have hok:=qre g1
 simp (disch:=omega) only [List.replicate,qz,k6,go_sem]
 repeat' first
  |((first|apply qd|apply qb);exact rvk;simp only [go_sem];first|exact VLe.refl _|apply qe|apply qa|apply qf|skip)
  |with_reducible first|apply And.intro|intro _
 all_goals try exact clz
 refine qt (T:=fun s:ES=>qU 200 [(2,zj a.cls),(3,qK a.b),(5,strs a.lay),(6,zh a.pos),(7,.op h.length 1 0),(11,.op (h.length+1) 1 0),(14,.op (h.length+2) 1 0),(15,.op (h.length+3) 1 0),(21,.osl (h.length+5) s.v 6 0 (enU a s.i).length),(86,qz a.l),(87,.int .i64 a.l.length),(88,.int .i64 s.i)])
  (H:=fun s=>h++ [.mem 1 26 (coC a.x),.mem 1 44 [qE a.gs],.mem 1 49 [.nl],.mem 1 35 [.int .i64 0],O4,zT s.v 58 (qbg (enU a s.i)),s.O6,s.O7,s.O8,s.O9,.emp s.e10,s.O11,s.O12,s.O13,.emp s.e14,s.O15,.emp 0])
  (inv:=fun s=>s.i≤a.l.length∧qI [s.O6] 0=true∧qI [s.O7] 0=true∧qI [s.O8] 0=true∧qI [s.O9] 0=true∧qI [s.O11] 0=true∧qI [s.O12] 0=true∧qI [s.O13] 0=true∧qI [s.O15] 0=true) (m:=fun s=>a.l.length-s.i) ⟨0,1,.emp 0,.emp 0,.emp 0,.emp 0,0,.emp 0,.emp 0,.emp 0,0,.emp 0⟩ ⟨Nat.zero_le _,rfl,rfl,rfl,rfl,rfl,rfl,rfl,rfl⟩ (Wk.temps ?_) ?_
 ·(simp only [qz,zj,qK,strs,zh,enU,List.length_nil,List.replicate,go_sem,qk,qi,qg,qj];try (repeat' first|(with_reducible apply And.intro)|(apply qe;omega)|(apply qa;rfl)|exact VLe.refl _))
 rintro ⟨k,v,O6,O7,O8,O9,e10,O11,O12,O13,e14,O15⟩ ⟨s1,p6,p7,p8,p9,p11,p12,p13,p15⟩ K hK
 simp only at s1 p6 p7 p8 p9 p11 p12 p13 p15 hK
 have p6': ∀m,qI (O6::m) 0=true:=fun _=>p6
 have p7': ∀m,qI (O7::m) 0=true:=fun _=>p7
 have p8': ∀m,qI (O8::m) 0=true:=fun _=>p8
 have p9': ∀m,qI (O9::m) 0=true:=fun _=>p9
 have p11': ∀m,qI (O11::m) 0=true:=fun _=>p11
 have p12': ∀m,qI (O12::m) 0=true:=fun _=>p12
 have p13': ∀m,qI (O13::m) 0=true:=fun _=>p13
 have p15': ∀m,qI (O15::m) 0=true:=fun _=>p15
 by_cases hk:k<a.l.length
 case neg=>
  have k7:((k:Int)<a.l.length)=False:=eq_false (by omega)
  obtain rfl:k=a.l.length:=by omega
  simp (disch:=omega) only [List.replicate,qz,k7,go_sem]
  repeat' first
   |((first|apply qd|apply qb);exact rvk;simp only [go_sem];first|exact VLe.refl _|apply qe|apply qa|apply qf|skip)
   |with_reducible first|apply And.intro|intro _
  all_goals try exact clz
  exact ke ⟨qmd rfl,VLe.refl _,trivial⟩
 have k7:((k:Int)<a.l.length)=True:=eq_true (by omega)
 have k8:((k:Int)<a.cls.length)=True:=eq_true (by omega)
 have hcu:=hcl k hk
 obtain ⟨e1,e2⟩:=spK hok hk
 obtain ⟨f1,f2,_,_⟩:=qfn hok hk
 have hown:=qly hok hk
 have c160:=fun h=>qAK a.b (k:Int) (a.l.getD k default) h (by omega)
 rw [e1,e2]at c160
 obtain ⟨u,hu⟩: ∃u,u=a.l.getD k default:=⟨_,rfl⟩
 have eu:=hu.symm
 obtain ⟨F,hF⟩: ∃F,F=frK a k:=⟨_,rfl⟩
 obtain ⟨G,hG⟩: ∃G,G=toK a k:=⟨_,rfl⟩
 rw [←hF,←hG]at hown f1
 rw [←hG]at f2
 simp only [←hF,←hG,eu]at c160
 unfold qK unC at c160
 have q1:((F:Int)≤G)=True:=eq_true (by omega)
 have q2:((G:Int)≤a.b.length)=True:=eq_true (by omega)
 have q3:(0≤(F:Int))=True:=eq_true (by omega)
 simp (disch:=omega) only [List.replicate,qz,qK,unC,wdC,k7,eu,q1,q2,q3,p6',p7',go_sem]
 repeat' first
  |((first|refine cA (c160 _) ?_ ?_|refine cG (fun e=>c160 _) ?_ ?_|refine cU (fun _=>c160 _) ?_ ?_);(next=>exact flk);simp (disch:=omega) only [qz,qK,unC,wdC,k7,eu,q1,q2,q3,p6',p7',Int.toNat_natCast,go_sem])
  |((first|apply qd|apply qb);exact rvk;simp only [go_sem];first|exact VLe.refl _|apply qe|apply qa|apply qf|skip)
  |with_reducible first|apply And.intro|intro _
 all_goals try exact clz
 obtain ⟨v6,hv6⟩: ∃v6,v6=qu (some O6)+1:=⟨_,rfl⟩
 obtain ⟨v7,hv7⟩: ∃v7,v7=qu (some O7)+1:=⟨_,rfl⟩
 simp only [←hv6,←hv7]
 have t0:kR (qaR a.b) F (F+0)= []:=by unfold kR;simp
 have tl:(qaR a.b).length=a.b.length:=by unfold qaR;simp
 refine qt (T:=fun s:Nat×Nat×AObj×AObj=>qU 200 [(2,zj a.cls),(3,qK a.b),(5,strs a.lay),(6,zh a.pos),(7,.op h.length 1 0),(11,.op (h.length+1) 1 0),(14,.op (h.length+2) 1 0),(15,.op (h.length+3) 1 0),(22,.int .i64 (k:Int)),(23,.op (h.length+6) v6 0),(24,.int .i64 (F:Int)),(25,.int .i64 (G:Int)),(26,.op (h.length+7) v7 0),(86,qz a.l),(87,.int .i64 a.l.length),(88,.int .i64 (k:Int)),(21,.osl (h.length+5) v 6 0 (enU a k).length),(103,.sl (G-F) fun j=>wdC (a.b.getD (F+j) default)),(104,.int .i64 ((G-F:Nat):Int)),(105,.int .i64 s.1)])
  (H:=fun s=>h++ [.mem 1 26 (coC a.x),.mem 1 44 [qE a.gs],.mem 1 49 [.nl],.mem 1 35 [.int .i64 0],O4,zT v 58 (qbg (enU a k)),.mem v6 83 (unC u),.mem v7 22 [.osl (h.length+10) s.2.1 1 0 s.1],s.2.2.1,s.2.2.2,zT s.2.1 9 (jj (kR (qaR a.b) F (F+s.1))),O11,O12,O13,.emp e14,O15,.emp 0])
  (inv:=fun s=>s.1≤G-F∧qI [s.2.2.1] 0=true∧qI [s.2.2.2] 0=true) (m:=fun s=>G-F-s.1) (0,e10,O8,O9) ⟨Nat.zero_le _,p8,p9⟩
  (Wk.trans (Wk.ownNil (j:=h.length+7) (i:=0) (k:=h.length+10) (v:=v7) (ty:=22) (cs:= [.nl]) (ve:=e10) (sz:=1) ?c1 rfl ?c2) ?c3) ?c4
 case c1=>simp only [go_sem]
 case c2=>simp only [go_sem]
 case c3=>
  have eo:zT e10 9 (jj (kR (qaR a.b) F (F+0)))= .emp e10:=by rw [t0];rfl
  have eo2:zT e10 9 (jj (kR (qaR a.b) F F))= .emp e10:=eo
  simp only [go_sem,eo,eo2,List.set_cons_zero,unC]
  refine Wk.temps ?_
  (simp only [qz,zj,qK,wdC,strs,zh,unC,List.replicate,go_sem,qk,qi,qg,qj];try (repeat' first|(with_reducible apply And.intro)|(apply qe;omega)|(apply qa;rfl)|exact VLe.refl _))
 case c4=>
 rintro ⟨j,w,O8,O9⟩ ⟨j1,p8,p9⟩ K2 hK2
 simp only at j1 p8 p9 hK2
 have p8': ∀m,qI (O8::m) 0=true:=fun _=>p8
 have p9': ∀m,qI (O9::m) 0=true:=fun _=>p9
 have hsl:=qdP (t:=qaR a.b) (f:=F) (g:=F+j) (by omega) (by omega)
 by_cases hj:j<G-F
 ·have r1:((j:Int)<((G-F:Nat):Int))=True:=eq_true (by omega)
  have hsn:=qmJ (t:=qaR a.b) (f:=F) (d:=j) (by omega)
  have htx:(qaR a.b).getD (F+j) []=(a.b.getD (F+j) default).text:=by
   unfold qaR
   rw [gdqA,List.getElem?_map,gdqA,zD (show F+j<a.b.length by omega)]
   rfl
  obtain ⟨wd,hwd⟩: ∃wd,wd=a.b.getD (F+j) default:=⟨_,rfl⟩
  have ewd:=hwd.symm
  rw [htx,ewd]at hsn
  obtain ⟨S,hS⟩: ∃S,S=kR (qaR a.b) F (F+j):=⟨_,rfl⟩
  have eS:=hS.symm
  rw [eS]at hsn hsl
  have hsl:S.length=j:=by omega
  have eC:=jE S
  have eTk:List.take j (jj S)=jj S:=List.take_of_length_le (by omega)
  rw [hsl]at eC
  simp (disch:=omega) only [List.replicate,wdC,r1,ewd,eS,p8',p9',eC,eTk,Nat.mul_one,go_sem]
  repeat' first
   |((first|apply qd|apply qb);exact rvk;simp only [go_sem];first|exact VLe.refl _|apply qe|apply qa|apply qf|skip)
   |with_reducible first|apply And.intro|intro _
  all_goals try exact clz
  have eA:jj S++ [AV.str wd.text]=jj (kR (qaR a.b) F (F+(j+1))):=by rw [hsn,qce];rfl
  try rw [eA]
  refine hK2 _ _ (j+1,w+1,.mem (qu (some O8)+1) 64 (wdC wd),.mem (qu (some O9)+1) 9 [.str wd.text]) ⟨hj,rfl,rfl⟩ (by simp only;omega) ?_
  simp only [wdC]
  refine Wk.temps ?_
  (simp only [qz,zj,qK,wdC,strs,zh,unC,List.replicate,go_sem,qk,qi,qg,qj];try (repeat' first|(with_reducible apply And.intro)|(apply qe;omega)|(apply qa;rfl)|exact VLe.refl _))
 ·have r1:((j:Int)<((G-F:Nat):Int))=False:=eq_false (by omega)
  obtain rfl:j=G-F:=by omega
  have hG2:F+(G-F)=G:=by omega
  rw [hG2,←hown]
  rw [hG2,←hown]at hsl
  clear hK2
  simp (disch:=omega) only [List.replicate,strs,r1,go_sem]
  repeat' first
   |((first|apply qd|apply qb);exact rvk;simp only [go_sem];first|exact VLe.refl _|apply qe|apply qa|apply qf|skip)
   |with_reducible first|apply And.intro|intro _
  all_goals try exact clz
  obtain ⟨W,hW⟩: ∃W,W=qnk a k:=⟨_,rfl⟩
  have eW:=hW.symm
  rw [eW]at hsl ⊢
  have hWl:W.length=G-F:=by omega
  have hWb:W.length≤1000000000:=by omega
  have hy0:enU a k++enY a k 0=enU a k:=by show enU a k++ []=_;simp
  refine qt (T:=fun s:EY=>qU 200 [(2,zj a.cls),(3,qK a.b),(5,strs a.lay),(6,zh a.pos),(7,.op h.length 1 0),(11,.op (h.length+1) 1 0),(14,.op (h.length+2) 1 0),(15,.op (h.length+3) 1 0),(22,.int .i64 (k:Int)),(23,.op (h.length+6) v6 0),(24,.int .i64 (F:Int)),(25,.int .i64 (G:Int)),(26,.op (h.length+7) v7 0),(86,qz a.l),(87,.int .i64 a.l.length),(88,.int .i64 (k:Int)),(21,.osl (h.length+5) s.v 6 0 (enU a k++enY a k s.y).length),(116,.int .i64 a.lay.length),(117,.int .i64 s.y)])
   (H:=fun s=>h++ [.mem 1 26 (coC a.x),.mem 1 44 [qE a.gs],.mem 1 49 [.nl],.mem 1 35 [.int .i64 0],O4,zT s.v 58 (qbg (enU a k++enY a k s.y)),.mem v6 83 (unC u),.mem v7 22 [strs W],O8,O9,.emp (w+1),s.O11,s.O12,s.O13,.emp s.e14,s.O15,.emp 0])
   (inv:=fun s=>s.y≤a.lay.length∧qI [s.O11] 0=true∧qI [s.O12] 0=true∧qI [s.O13] 0=true∧qI [s.O15] 0=true) (m:=fun s=>a.lay.length-s.y) ⟨0,v,O11,O12,O13,e14,O15⟩ ⟨Nat.zero_le _,p11,p12,p13,p15⟩
   (Wk.trans (Wk.fzCell (j:=h.length+7) (k:=h.length+10) (i:=0) (v:=v7) (ty:=22) (cs:= [.osl (h.length+10) w 1 0 (G-F)]) (c:= .osl (h.length+10) w 1 0 (G-F)) (c':=strs W) ?d1 rfl ?d2 (by omega) ?d3) ?d4) ?d5
  case d1=>simp only [go_sem]
  case d2=>simp only [go_sem]
  case d3=>
   rw [qb4,getO_app]
   exact qcd (fun _=>rfl) hWl.symm
  case d4=>
   simp only [go_sem,hy0,List.set_cons_zero,unC]
   refine Wk.temps ?_
   (simp only [qz,zj,qK,wdC,strs,zh,unC,List.replicate,go_sem,qk,qi,qg,qj];try (repeat' first|(with_reducible apply And.intro)|(apply qe;omega)|(apply qa;rfl)|exact VLe.refl _))
  case d5=>
  rintro ⟨y,v,O11,O12,O13,e14,O15⟩ ⟨y1,p11,p12,p13,p15⟩ K3 hK3
  simp only at y1 p11 p12 p13 p15 hK3
  have p11': ∀m,qI (O11::m) 0=true:=fun _=>p11
  have p12': ∀m,qI (O12::m) 0=true:=fun _=>p12
  have p13': ∀m,qI (O13::m) 0=true:=fun _=>p13
  have p15': ∀m,qI (O15::m) 0=true:=fun _=>p15
  have hys:enY a k (y+1)=enY a k y++if vrK a k y= [] then [] else [enK a k y]:=rfl
  by_cases hy:y<a.lay.length
  case neg=>
   have r2:((y:Int)<a.lay.length)=False:=eq_false (by omega)
   obtain rfl:y=a.lay.length:=by omega
   have hus:enU a k++enY a k a.lay.length=enU a (k+1):=rfl
   rw [hus]
   simp (disch:=omega) only [List.replicate,strs,r2,go_sem]
   repeat' first
    |((first|apply qd|apply qb);exact rvk;simp only [go_sem];first|exact VLe.refl _|apply qe|apply qa|apply qf|skip)
    |with_reducible first|apply And.intro|intro _
   all_goals try exact clz
   refine hK _ _ ⟨k+1,v,.mem v6 83 (unC u),.mem v7 22 [strs W],O8,O9,w+1,O11,O12,O13,e14,O15⟩ ⟨hk,rfl,rfl,p8,p9,p11,p12,p13,p15⟩ (by simp only;omega) ?_
   simp only [unC]
   refine Wk.temps ?_
   (simp only [qz,zj,qK,wdC,strs,zh,unC,List.replicate,go_sem,qk,qi,qg,qj];try (repeat' first|(with_reducible apply And.intro)|(apply qe;omega)|(apply qa;rfl)|exact VLe.refl _))
  have r2:((y:Int)<a.lay.length)=True:=eq_true (by omega)
  have r3:((y:Int)<a.pos.length)=True:=eq_true (by omega)
  obtain ⟨pb,hpb⟩: ∃pb,pb=a.pos.getD y false:=⟨_,rfl⟩
  have epb:=hpb.symm
  obtain ⟨cl,hclx⟩: ∃cl,cl=a.cls.getD k []:=⟨_,rfl⟩
  have ecl:=hclx.symm
  simp (disch:=omega) only [List.replicate,strs,zh,r2,r3,epb,p11',go_sem]
  repeat' first
   |((first|apply qd|apply qb);exact rvk;simp only [go_sem];first|exact VLe.refl _|apply qe|apply qa|apply qf|skip)
   |with_reducible first|apply And.intro|intro _
  all_goals try exact clz
  obtain ⟨v11,hv11⟩: ∃v11,v11=qu (some O11)+1:=⟨_,rfl⟩
  simp only [←hv11]
  refine ⟨_,_,Wk.trans (Wk.cells (j:=h.length+11) (v:=v11) (ty:=58) (cs:= [.int .i64 (y:Int),.int .i64 (F:Int),.int .i64 (G:Int),.bool pb,.nl,.nl]) (cs':= [.int .i64 (y:Int),.int .i64 (F:Int),.int .i64 (G:Int),.bool pb,strs [],.nl]) ?m1 ?m2)
   (Wk.ownNil (j:=h.length+11) (i:=5) (k:=h.length+14) (v:=v11) (ty:=58) (cs:= [.int .i64 (y:Int),.int .i64 (F:Int),.int .i64 (G:Int),.bool pb,strs [],.nl]) (ve:=e14) (sz:=2) ?m3 rfl ?m4),?_⟩
  case m1=>simp only [go_sem]
  case m2=>exact ⟨VLe.refl _,VLe.refl _,VLe.refl _,VLe.refl _,kj,VLe.refl _,trivial⟩
  case m3=>simp only [go_sem]
  case m4=>simp only [go_sem]
  have c161:=fun h=>qCU u cl W a.lay (y:Int) h
  unfold unC strs at c161
  have kc:((k:Int)<a.cls.length)=True:=k8
  simp (disch:=omega) only [List.set_cons_succ,List.set_cons_zero,zj,strs,unC,k8,ecl,go_sem]
  repeat' first
   |((first|refine cA (c161 _) ?_ ?_|refine cG (fun e=>c161 _) ?_ ?_|refine cU (fun _=>c161 _) ?_ ?_);(next=>exact flk);simp (disch:=omega) only [zj,strs,k8,ecl,unC,go_sem])
   |((first|apply qd|apply qb);exact rvk;simp only [go_sem];first|exact VLe.refl _|apply qe|apply qa|apply qf|skip)
   |with_reducible first|apply And.intro|intro _
  all_goals try exact clz
  have hmem:u∈a.l:=by rw [hu,gdqA,zD hk];exact List.getElem_mem hk
  have hur:=(qcI hok.un).rg u hmem
  have hri:qgY u.rds a.x.sig.length:=by rw [hur.2.2.2];exact qgG _ _ _
  have hsgl:=(qke hok.co).sg
  have hsr: ∀r,r<u.rds.length→(u.rds.getD r default).src.length≤32∧qfP a.x.sig a.gs (u.rds.getD r default).src=0:=fun r hr=>by
   have h1:=hri.src (u.rds.getD r default) (by rw [gdqA,zD hr];exact List.getElem_mem hr)
   have h2:=qe4 (hi:=((a.x.sig.length:Nat):Int)) (lo:=0) h1.1 h1.2
   refine ⟨by omega,?_⟩
   unfold qfP
   rw [if_pos g2]
   exact qq5 h1.1 h1.2
  have h8:=qkR hz.g42 g2
  have zrl:=hz.un.rd k
  have zwd:=hz.un.wd k
  rw [eu]at zrl
  simp only [eu]at zwd
  have zcl:cl.length=u.rds.length:=by rw [←ecl,←eu];exact hcu
  have hV:=qyp g3 k y (a.l.getD k default).rds.length
  rw [eu,ecl,eW]at hV
  obtain ⟨VL,hVL⟩: ∃VL,VL=vrK a k y:=⟨_,rfl⟩
  have hV:VL=flG (vtB u.rds cl W a.lay (y:Int)) (fun r=>(⟨(u.rds.getD r default).words,shR a.x.sig a.gs (u.rds.getD r default).src⟩:Va)) u.rds.length:=by
   rw [hVL,←hV]
   unfold vrK
   rw [eu]
  have hxl:(vtX u.rds cl W a.lay (y:Int) u.rds.length).length=VL.length:=by rw [hV];exact qkz _ _ _ _
  have hVLn:VL.length≤u.rds.length:=by rw [hV];exact qwg _ _ _
  have hix:=fun i hi=>qwf (p:=vtB u.rds cl W a.lay (y:Int)) (g:=fun r=>([.agg (rdC (u.rds.getD r default))]:List AV)) (k:=fun r=>(⟨(u.rds.getD r default).words,shR a.x.sig a.gs (u.rds.getD r default).src⟩:Va)) (n:=u.rds.length) (i:=i) hi
  rw [←hV]at hix
  refine qaM (xs:=vtX u.rds cl W a.lay (y:Int) u.rds.length) (itV u cl W a.lay (y:Int) zrl zcl zwd hWb (by omega) (fun i=>by have:=hz.yl i;omega)) ?e0
   (S:=fun i hh=> ∃w2 Q12 Q13,qI [Q12] 0=true∧qI [Q13] 0=true∧(Q12=O12∨ ∀n,kX n Q12)∧(Q13=O13∨ ∀n,kX n Q13)∧hh=h++ [.mem 1 26 (coC a.x),.mem 1 44 [qE a.gs],.mem 1 49 [.nl],.mem 1 35 [.int .i64 0],O4,zT v 58 (qbg (enU a k++enY a k y)),.mem v6 83 (unC u),.mem v7 22 [strs W],O8,O9,.emp (w+1),.mem v11 58 [.int .i64 (y:Int),.int .i64 (F:Int),.int .i64 (G:Int),.bool pb,strs [],.osl (h.length+14) w2 2 0 i],Q12,Q13,zT w2 85 (qdj (VL.take i)),O15,.emp 0])
   (E:=fun _ _=>False) ?e1 (fun _ _ h=>h.elim) ?e2 ?e3 ?e4 ?e5 (fun _ _ h=>h.elim)
  case e0=>
   intro x hx
   unfold vtX at hx
   obtain ⟨i,hi,e⟩:=List.getElem_of_mem hx
   obtain ⟨r,_,_,r3,_⟩:=hix i hi
   rw [←e,r3]
   rfl
  case e1=>
   rintro i hh ⟨w2,Q12,Q13,_,_,l12,l13,rfl⟩
   refine LowI.app rfl (fun o ho=> ?_)
   simp only [List.mem_cons,List.not_mem_nil,or_false]at ho
   have lft: ∀ {p q:Prop},p→p∨q:=fun h=> .inl h
   rcases ho with rfl|rfl|rfl|rfl|rfl|rfl|rfl|rfl|rfl|rfl|rfl|rfl|rfl|rfl|rfl|rfl|rfl
   case inr.inr.inr.inr.inr.inr.inr.inr.inr.inr.inr.inl=>
    right
    constructor<;>(intro c hc;simp only [List.mem_cons,List.not_mem_nil,or_false]at hc;rcases hc with rfl|rfl|rfl|rfl|rfl|rfl<;>simp [jg,qdy])
   case inr.inr.inr.inr.inr.inr.inr.inr.inr.inr.inr.inr.inl=>
    rcases l12 with rfl|l12
    ·left;simp only [List.mem_cons,true_or,or_true]
    ·right;exact ⟨l12 _,l12 _⟩
   case inr.inr.inr.inr.inr.inr.inr.inr.inr.inr.inr.inr.inr.inl=>
    rcases l13 with rfl|l13
    ·left;simp only [List.mem_cons,true_or,or_true]
    ·right;exact ⟨l13 _,l13 _⟩
   case inr.inr.inr.inr.inr.inr.inr.inr.inr.inr.inr.inr.inr.inr.inl=>
    right
    exact ⟨qat (qgU _ _),qat (qgU _ _)⟩
   all_goals
    left
    simp only [List.mem_cons,unC,strs,true_or,or_true]
  case e2=>exact ⟨e14,O12,O13,p12,p13,.inl rfl,.inl rfl,rfl⟩
  case e3=>
   have lw: ∀n,jg n (qK a.b)=true:=fun _=>rfl
   have lu: ∀n,jg n (qz a.l)=true:=fun _=>rfl
   have lr: ∀n,jg n (zB u.rds)=true:=fun _=>rfl
   simp [jg,jg.lowVs,lw,lu,lr]
   try omega
  case e4=>
   rintro i hh tl LI TS hi ⟨w2,Q12,Q13,q12,q13,l12,l13,rfl⟩ hlen K4 K5 hK4 hN hR' hX
   obtain ⟨r,ra,rb,rc,rd4⟩:=hix i hi
   have rc':(vtX u.rds cl W a.lay (y:Int) u.rds.length)[i]= [.agg (rdC (u.rds.getD r default))]:=rc
   rw [rc']
   rw [hxl]at hi
   have q12': ∀m,qI (Q12::m) 0=true:=fun _=>q12
   have q13': ∀m,qI (Q13::m) 0=true:=fun _=>q13
   obtain ⟨sl,sE⟩:=hsr r ra
   have zw:=zwd r
   obtain ⟨rd,hrd⟩: ∃rd,rd=u.rds.getD r default:=⟨_,rfl⟩
   rw [←hrd]at rd4 sl sE zw ⊢
   have c142:=fun h=>qBK a.x.sig a.gs rd.src h hsz (by omega) (fun _=>h8)
   simp only [sE]at c142
   obtain ⟨sh,hsh⟩: ∃sh,sh=shR a.x.sig a.gs rd.src:=⟨_,rfl⟩
   rw [←hsh]at rd4
   simp only [←hsh]at c142
   have hTk:VL.take (i+1)=VL.take i++ [⟨rd.words,sh⟩]:=by rw [List.take_add_one,rd4];rfl
   have hTl:(VL.take i).length=i:=by rw [List.length_take];omega
   have eVl:=qgT (VL.take i)
   rw [hTl]at eVl
   have eVk:List.take (i*2) (qdj (VL.take i))=qdj (VL.take i):=List.take_of_length_le (by omega)
   have eVn:qdj (VL.take (i+1))=qdj (VL.take i)++ [strs rd.words,strs sh]:=by rw [hTk,qp9];rfl
   unfold strs qo at c142
   simp only [qb1]
   simp (disch:=omega) only [List.append_assoc,coC,rdC,q12',go_sem]
   refine hK4 _ _ (h++ [.mem 1 26 (coC a.x),.mem 1 44 [qE a.gs],.mem 1 49 [.nl],.mem 1 35 [.int .i64 0],O4,zT v 58 (qbg (enU a k++enY a k y)),.mem v6 83 (unC u),.mem v7 22 [strs W],O8,O9,.emp (w+1),.mem v11 58 [.int .i64 (y:Int),.int .i64 (F:Int),.int .i64 (G:Int),.bool pb,strs [],.osl (h.length+14) w2 2 0 i],.mem (qu (some Q12)+1) 89 (rdC rd),Q13,zT w2 85 (qdj (VL.take i)),O15,.emp 0]) (by simp [coC,rdC]) (by simp) ?_
   simp (disch:=omega) only [List.append_assoc,coC,rdC,qo,strs,q13',eVl,eVk,Nat.mul_one,go_sem]
   repeat' first
    |((first|refine cA (c142 _) ?_ ?_|refine cG (fun e=>c142 _) ?_ ?_|refine cU (fun _=>c142 _) ?_ ?_);(next=>exact flk);simp (disch:=omega) only [List.append_assoc,coC,rdC,qo,strs,q13',eVl,eVk,Nat.mul_one,go_sem])
    |((first|apply qd|apply qb);exact rvk;simp only [go_sem];first|exact VLe.refl _|apply qe|apply qa|apply qf|skip)
    |with_reducible first|apply And.intro|intro _
   all_goals try exact clz
   have hl1: ∀n,kX n (.mem (qu (some Q12)+1) 89 (rdC rd)):=fun n c hc=>by
    simp only [rdC,List.mem_cons,List.not_mem_nil,or_false]at hc
    rcases hc with rfl|rfl<;>rfl
   have hl2: ∀n,kX n (.mem (qu (some Q13)+1) 85 [strs rd.words,strs sh]):=fun n c hc=>by
    simp only [List.mem_cons,List.not_mem_nil,or_false]at hc
    rcases hc with rfl|rfl<;>rfl
   refine hN _ _ (h++ [.mem 1 26 (coC a.x),.mem 1 44 [qE a.gs],.mem 1 49 [.nl],.mem 1 35 [.int .i64 0],O4,zT v 58 (qbg (enU a k++enY a k y)),.mem v6 83 (unC u),.mem v7 22 [strs W],O8,O9,.emp (w+1),.mem v11 58 [.int .i64 (y:Int),.int .i64 (F:Int),.int .i64 (G:Int),.bool pb,strs [],.osl (h.length+14) (w2+1) 2 0 (i+1)],.mem (qu (some Q12)+1) 89 (rdC rd),.mem (qu (some Q13)+1) 85 [strs rd.words,strs sh],zT (w2+1) 85 (qdj (VL.take (i+1))),O15,.emp 0]) (by rw [eVn,List.append_assoc];rfl) (by simp) ⟨w2+1,_,_,rfl,rfl,.inr hl1,.inr hl2,rfl⟩
  case e5=>
   rintro hh ⟨w2,Q12,Q13,q12,q13,l12,l13,rfl⟩
   have q12': ∀m,qI (Q12::m) 0=true:=fun _=>q12
   have q13': ∀m,qI (Q13::m) 0=true:=fun _=>q13
   rw [hxl,List.take_length]
   simp (disch:=omega) only [go_sem]
   refine ⟨_,_,Wk.fzCell (j:=h.length+11) (k:=h.length+14) (i:=5) (v:=v11) (ty:=58) (cs:= [.int .i64 (y:Int),.int .i64 (F:Int),.int .i64 (G:Int),.bool pb,strs [],.osl (h.length+14) w2 2 0 VL.length]) (c:= .osl (h.length+14) w2 2 0 VL.length) (c':=qaS VL) ?n1 rfl ?n2 (by omega) ?n3,?_⟩
   case n1=>simp only [go_sem]
   case n2=>simp only [go_sem]
   case n3=>
    rw [qb4,getO_app]
    exact qpK rfl
   have zv: ∀g,valL g .len [qaS VL]= .int .i64 VL.length:=fun _=>rfl
   have zw: ∀g,okL g .len [qaS VL]=True:=fun _=>eq_true trivial
   by_cases hV0:VL.length=0
   ·have n0:((VL.length:Int)=0)=True:=eq_true (by omega)
    simp (disch:=omega) only [List.set_cons_succ,List.set_cons_zero,zv,zw,n0,go_sem]
    repeat' first
     |((first|apply qd|apply qb);exact rvk;simp only [go_sem];first|exact VLe.refl _|apply qe|apply qa|apply qf|skip)
     |with_reducible first|apply And.intro|intro _
    all_goals try exact clz
    have hnil:VL= []:=List.eq_nil_of_length_eq_zero hV0
    rw [←hVL,hnil,if_pos rfl,List.append_nil]at hys
    refine hK3 _ _ ⟨y+1,v,.mem v11 58 [.int .i64 (y:Int),.int .i64 (F:Int),.int .i64 (G:Int),.bool pb,strs [],qaS VL],Q12,Q13,w2+1,O15⟩ ⟨hy,rfl,q12,q13,p15⟩ (by simp only;omega) ?_
    simp only [hys]
    refine Wk.temps ?_
    (simp only [qz,zj,qK,wdC,strs,zh,unC,List.replicate,go_sem,qk,qi,qg,qj];try (repeat' first|(with_reducible apply And.intro)|(apply qe;omega)|(apply qa;rfl)|exact VLe.refl _))
   have n0:((VL.length:Int)=0)=False:=eq_false (by omega)
   have hne: ¬VL= []:=fun e=>hV0 (by rw [e];rfl)
   rw [←hVL,if_neg hne]at hys
   have eBA:baK a k=kZ (fun r=>decide ((u.rds.getD r default).words=W)) u.rds.length 0:=by unfold baK;rw [eu,eW]
   have hBc:=zU (fun r=>decide ((u.rds.getD r default).words=W)) u.rds.length
   have hsu:suK a k y=if pb=true∧0≤baK a k then shR a.x.sig a.gs (u.rds.getD (baK a k).toNat default).src else []:=by unfold suK;rw [epb,eu]
   have hen:enC (enK a k y)= [.int .i64 (y:Int),.int .i64 (F:Int),.int .i64 (G:Int),.bool pb,strs (suK a k y),qaS VL]:=by
    unfold enK enC
    rw [epb,←hF,←hG,←hVL]
   have hMl:=qkr a k y
   obtain ⟨M,hM⟩: ∃M,M=enU a k++enY a k y:=⟨_,rfl⟩
   have hMn:enU a k++enY a k (y+1)=M++ [enK a k y]:=by rw [hys,hM,List.append_assoc]
   rw [←hM]at hMl ⊢
   have hMb:M.length≤1000:=by
    have h1:k*a.lay.length≤12*18:=Nat.mul_le_mul (by omega) z3
    omega
   have eMl:=qgk M
   have eMk:List.take (M.length*6) (qbg M)=qbg M:=List.take_of_length_le (by omega)
   have eMn:qbg (enU a k++enY a k (y+1))=qbg M++enC (enK a k y):=by rw [hMn,qoa,qoc]
   have eMq:(enU a k++enY a k (y+1)).length=M.length+1:=by rw [hMn,List.length_append];rfl
   have c127:=fun H hk=>qAo u.rds W (h.length+7) v7 H hk (by omega) zwd hWb
   rw [←eBA]at c127 hBc
   obtain ⟨bk,hbk⟩: ∃bk,bk=baK a k:=⟨_,rfl⟩
   rw [←hbk]at hsu hBc
   simp only [←hbk]at c127
   obtain ⟨su,hsux⟩: ∃su,su=suK a k y:=⟨_,rfl⟩
   rw [←hsux]at hsu hen
   simp (disch:=omega) only [List.set_cons_succ,List.set_cons_zero,zv,zw,n0,unC,go_sem]
   repeat' first
    |((first|apply qd|apply qb);exact rvk;simp only [go_sem];first|exact VLe.refl _|apply qe|apply qa|apply qf|skip)
    |with_reducible first|apply And.intro|intro _
   all_goals try exact clz
   refine cA (c127 _ ?ka) (by exact flk) ?_
   case ka=>simp only [go_sem]
   cases pb with
   |false=>
    rw [if_neg (by simp)]at hsu
    rw [hsu]at hen
    simp (disch:=omega) only [zh,r3,epb,p15',eMl,eMk,Nat.mul_one,go_sem]
    repeat' first
     |((first|apply qd|apply qb);exact rvk;simp only [go_sem];first|exact VLe.refl _|apply qe|apply qa|apply qf|skip)
     |with_reducible first|apply And.intro|intro _
    all_goals try exact clz
    rw [hen]at eMn
    try rw [←eMn]
    refine hK3 _ _ ⟨y+1,v+1,.mem v11 58 [.int .i64 (y:Int),.int .i64 (F:Int),.int .i64 (G:Int),.bool false,strs [],qaS VL],Q12,Q13,w2+1,.mem (qu (some O15)+1) 58 [.int .i64 (y:Int),.int .i64 (F:Int),.int .i64 (G:Int),.bool false,strs [],qaS VL]⟩ ⟨hy,rfl,q12,q13,rfl⟩ (by simp only;omega) ?_
    simp only [eMq]
    refine Wk.temps ?_
    (simp only [qz,zj,qK,wdC,strs,zh,unC,List.replicate,go_sem,qk,qi,qg,qj];try (repeat' first|(with_reducible apply And.intro)|(apply qe;omega)|(apply qa;rfl)|exact VLe.refl _))
   |true=>
   by_cases hb0:0≤bk
   case neg=>
    have n1:(0≤bk)=False:=eq_false hb0
    rw [if_neg (fun hc=>hb0 hc.2)]at hsu
    rw [hsu]at hen
    simp (disch:=omega) only [zh,r3,epb,p15',eMl,eMk,n1,Nat.mul_one,go_sem]
    repeat' first
     |((first|apply qd|apply qb);exact rvk;simp only [go_sem];first|exact VLe.refl _|apply qe|apply qa|apply qf|skip)
     |with_reducible first|apply And.intro|intro _
    all_goals try exact clz
    rw [hen]at eMn
    try rw [←eMn]
    refine hK3 _ _ ⟨y+1,v+1,.mem v11 58 [.int .i64 (y:Int),.int .i64 (F:Int),.int .i64 (G:Int),.bool true,strs [],qaS VL],Q12,Q13,w2+1,.mem (qu (some O15)+1) 58 [.int .i64 (y:Int),.int .i64 (F:Int),.int .i64 (G:Int),.bool true,strs [],qaS VL]⟩ ⟨hy,rfl,q12,q13,rfl⟩ (by simp only;omega) ?_
    simp only [eMq]
    refine Wk.temps ?_
    (simp only [qz,zj,qK,wdC,strs,zh,unC,List.replicate,go_sem,qk,qi,qg,qj];try (repeat' first|(with_reducible apply And.intro)|(apply qe;omega)|(apply qa;rfl)|exact VLe.refl _))
   case pos=>
    have n1:(0≤bk)=True:=eq_true hb0
    rw [if_pos ⟨rfl,hb0⟩]at hsu
    obtain ⟨r,hr1,hr2⟩: ∃r:Nat,bk=(r:Int)∧r<u.rds.length:=by
     rcases hBc with ⟨i,h1,_,_,h4⟩|⟨_,h2⟩
     ·exact ⟨i,h4,h1⟩
     ·omega
    rw [hr1]at n1
    rw [hr1,Int.toNat_natCast]at hsu
    simp only [hr1]
    have n2:((r:Int)<u.rds.length)=True:=eq_true (by omega)
    obtain ⟨sl,sE⟩:=hsr r hr2
    obtain ⟨rd,hrd⟩: ∃rd,rd=u.rds.getD r default:=⟨_,rfl⟩
    have erd:=hrd.symm
    rw [erd]at sl sE hsu
    have c142:=fun h=>qBK a.x.sig a.gs rd.src h hsz (by omega) (fun _=>h8)
    simp only [sE,←hsu]at c142
    unfold strs qo at c142
    simp (disch:=omega) only [zh,r3,epb,n1,n2,coC,unC,zB,rdC,qo,strs,erd,go_sem]
    repeat' first
     |((first|refine cA (c142 _) ?_ ?_|refine cG (fun e=>c142 _) ?_ ?_|refine cU (fun _=>c142 _) ?_ ?_);(next=>exact flk);simp (disch:=omega) only [zh,r3,epb,n1,n2,coC,unC,zB,rdC,qo,strs,erd,p15',eMl,eMk,Nat.mul_one,List.set_cons_succ,List.set_cons_zero,go_sem])
     |((first|apply qd|apply qb);exact rvk;simp only [go_sem];first|exact VLe.refl _|apply qe|apply qa|apply qf|skip)
     |with_reducible first|apply And.intro|intro _
    all_goals try exact clz
    rw [hen]at eMn
    unfold strs at eMn
    try rw [←eMn]
    refine hK3 _ _ ⟨y+1,v+1,.mem v11 58 [.int .i64 (y:Int),.int .i64 (F:Int),.int .i64 (G:Int),.bool true,strs su,qaS VL],Q12,Q13,w2+1,.mem (qu (some O15)+1) 58 [.int .i64 (y:Int),.int .i64 (F:Int),.int .i64 (G:Int),.bool true,strs su,qaS VL]⟩ ⟨hy,rfl,q12,q13,rfl⟩ (by simp only;omega) ?_
    simp only [eMq]
    refine Wk.temps ?_
    (simp only [qz,zj,qK,wdC,strs,zh,unC,List.replicate,go_sem,qk,qi,qg,qj];try (repeat' first|(with_reducible apply And.intro)|(apply qe;omega)|(apply qa;rfl)|exact VLe.refl _))
end RC
end
section
open Go Go.Proofs AF HY LN
namespace RC
set_option maxHeartbeats 16000000
theorem qCK (e:En) (h:List AObj) (hs:e.sup.length≤1000000000) (hv:e.vars.length≤1000000000) (hw: ∀j,(e.vars.getD j default).words.length≤1000000000) (hg: ∀j,(e.vars.getD j default).sigla.length≤1000000000):
  ACalls Tryz.prog 30 [.agg (enC e),.agg (enC e)] h (.bool true) h:=by
 have c85:=fun h=>qAJ e.sup e.sup h hs hs
 rw [decide_eq_true rfl]at c85
 have zv1: ∀g,valL g .len [qaS e.vars]= .int .i64 e.vars.length:=fun _=>rfl
 have zv2: ∀g,okL g .len [qaS e.vars]=True:=fun _=>eq_true trivial
 refine acO qzV ?_
 simp (disch:=omega) only [qBm,List.replicate,enC,zv1,zv2,go_sem]
 repeat' first
  |((first|refine cA (c85 _) ?_ ?_|refine cG (fun e=>c85 _) ?_ ?_|refine cU (fun _=>c85 _) ?_ ?_);(next=>exact flk);simp (disch:=omega) only [enC,zv1,zv2,go_sem])
  |((first|apply qd|apply qb);exact rvk;simp only [go_sem];first|exact VLe.refl _|apply qe|apply qa|apply qf|skip)
  |with_reducible first|apply And.intro|intro _
 all_goals try exact clz
 refine qt (T:=fun i:Nat=>qU 86 [(2,.op h.length 1 0),(3,.op (h.length+1) 1 0),(5,.int .i64 i)])
  (H:=fun _=>h++ [.mem 1 58 [.int .i64 e.layer,.int .i64 e.frm,.int .i64 e.to,.bool e.pos,strs e.sup,qaS e.vars],.mem 1 58 [.int .i64 e.layer,.int .i64 e.frm,.int .i64 e.to,.bool e.pos,strs e.sup,qaS e.vars]])
  (inv:=fun i=>i≤e.vars.length) (m:=fun i=>e.vars.length-i) 0 (Nat.zero_le _) (Wk.temps ?_) ?_
 ·(simp only [List.replicate,go_sem,qk,qi,qg,qj];try (repeat' first|(with_reducible apply And.intro)|(apply qe;omega)|(apply qa;rfl)|exact VLe.refl _))
 rintro i i1 K hK
 by_cases hi:i<e.vars.length
 ·have k1:((i:Int)<e.vars.length)=True:=eq_true (by omega)
  have cw:=fun h=>qAJ (e.vars.getD i default).words (e.vars.getD i default).words h (hw i) (hw i)
  have cg:=fun h=>qAJ (e.vars.getD i default).sigla (e.vars.getD i default).sigla h (hg i) (hg i)
  rw [decide_eq_true rfl]at cw cg
  obtain ⟨x,hx⟩: ∃x,x=e.vars.getD i default:=⟨_,rfl⟩
  have ex:=hx.symm
  simp only [ex]at cw cg
  have zz:qaS e.vars= .sl e.vars.length fun i=>vaC (e.vars.getD i default):=rfl
  simp (disch:=omega) only [List.replicate,zz,vaC,k1,ex,go_sem]
  repeat' first
   |((first|refine cA (cw _) ?_ ?_|refine cG (fun e=>cw _) ?_ ?_|refine cA (cg _) ?_ ?_|refine cG (fun e=>cg _) ?_ ?_|refine cU (fun _=>cw _) ?_ ?_|refine cU (fun _=>cg _) ?_ ?_);(next=>exact flk);simp (disch:=omega) only [zz,vaC,k1,ex,go_sem])
   |((first|apply qd|apply qb);exact rvk;simp only [go_sem];first|exact VLe.refl _|apply qe|apply qa|apply qf|skip)
   |with_reducible first|apply And.intro|intro _
  all_goals try exact clz
  refine hK _ _ (i+1) hi (by omega) (Wk.temps ?_)
  (simp only [List.replicate,zz,go_sem,qk,qi,qg,qj];try (repeat' first|(with_reducible apply And.intro)|(apply qe;omega)|(apply qa;rfl)|exact VLe.refl _))
 ·have k1:((i:Int)<e.vars.length)=False:=eq_false (by omega)
  simp (disch:=omega) only [List.replicate,k1,zv1,zv2,go_sem]
  repeat' first
   |((first|apply qd|apply qb);exact rvk;simp only [go_sem];first|exact VLe.refl _|apply qe|apply qa|apply qf|skip)
   |with_reducible first|apply And.intro|intro _
  all_goals try exact clz
structure EqZ (l:List En):Prop where
 n:l.length≤1000000000
 s: ∀i,(l.getD i default).sup.length≤1000000000
 v: ∀i,(l.getD i default).vars.length≤1000000000
 w: ∀i j,((l.getD i default).vars.getD j default).words.length≤1000000000
 g: ∀i j,((l.getD i default).vars.getD j default).sigla.length≤1000000000
theorem qCJ (l:List En) (h:List AObj) (hz:EqZ l):ACalls Tryz.prog 29 [qaH l,qaH l] h (.bool true) h:=by
 have c68:=fun i h=>qCK (l.getD i default) h (hz.s i) (hz.v i) (hz.w i) (hz.g i)
 have hn:=hz.n
 refine acO qzU ?_
 simp (disch:=omega) only [qBl,List.replicate,qaH,go_sem]
 repeat' first
  |((first|apply qd|apply qb);exact rvk;simp only [go_sem];first|exact VLe.refl _|apply qe|apply qa|apply qf|skip)
  |with_reducible first|apply And.intro|intro _
 all_goals try exact clz
 refine qt (T:=fun i:Nat=>qU 27 [(0,qaH l),(1,qaH l),(5,.int .i64 i)]) (H:=fun _=>h) (inv:=fun i=>i≤l.length) (m:=fun i=>l.length-i) 0 (Nat.zero_le _) (Wk.temps ?_) ?_
 ·(simp only [qaH,List.replicate,go_sem,qk,qi,qg,qj];try (repeat' first|(with_reducible apply And.intro)|(apply qe;omega)|(apply qa;rfl)|exact VLe.refl _))
 rintro i i1 K hK
 by_cases hi:i<l.length
 ·have k1:((i:Int)<l.length)=True:=eq_true (by omega)
  have c68:=c68 i
  obtain ⟨x,hx⟩: ∃x,x=l.getD i default:=⟨_,rfl⟩
  have ex:=hx.symm
  simp only [ex]at c68
  unfold enC at c68
  simp (disch:=omega) only [List.replicate,qaH,enC,k1,ex,go_sem]
  repeat' first
   |((first|refine cA (c68 _) ?_ ?_|refine cG (fun e=>c68 _) ?_ ?_|refine cU (fun _=>c68 _) ?_ ?_);(next=>exact flk);simp (disch:=omega) only [qaH,enC,k1,ex,go_sem])
   |((first|apply qd|apply qb);exact rvk;simp only [go_sem];first|exact VLe.refl _|apply qe|apply qa|apply qf|skip)
   |with_reducible first|apply And.intro|intro _
  all_goals try exact clz
  refine hK _ _ (i+1) hi (by omega) (Wk.temps ?_)
  (simp only [qaH,List.replicate,go_sem,qk,qi,qg,qj];try (repeat' first|(with_reducible apply And.intro)|(apply qe;omega)|(apply qa;rfl)|exact VLe.refl _))
 ·have k1:((i:Int)<l.length)=False:=eq_false (by omega)
  simp (disch:=omega) only [List.replicate,qaH,k1,go_sem]
  repeat' first
   |((first|apply qd|apply qb);exact rvk;simp only [go_sem];first|exact VLe.refl _|apply qe|apply qa|apply qf|skip)
   |with_reducible first|apply And.intro|intro _
  all_goals try exact clz
end RC
end
section
open Go Go.Proofs AF HY LN
namespace RC
set_option maxHeartbeats 16000000
theorem qmb (names:List Str) (gs:List Gr) (S:List Int):(shR names gs S).length≤200:=by
 unfold shR
 split
 ·rw [List.length_map]
  unfold qzh
  obtain ⟨k,_,e⟩:=qjE gs (jr S) (kS gs (jr S)) (2^(kS gs (jr S)).length-1)
  rw [e,qdE]
  have h1:=ji k.testBit 64
  have h2:=ji (anN (jr S) (chN (usM gs (kS gs (jr S))) k)).testBit 64
  unfold qnl
  omega
 ·exact Nat.zero_le _
theorem qsz {a:Ap} (hz:qrk a):(enR a).length≤216:=by
 unfold enR
 split
 ·have h1:=qkr a a.l.length 0
  have h2:a.l.length*a.lay.length≤12*18:=Nat.mul_le_mul hz.l12 hz.y18
  have h3:enU a a.l.length++enY a a.l.length 0=enU a a.l.length:=by show _++ []=_;simp
  rw [h3]at h1
  omega
 ·exact Nat.zero_le _
structure EnZ (e:En):Prop where
 s:e.sup.length≤200
 v:e.vars.length≤1000000000
 w: ∀j,(e.vars.getD j default).words.length≤1000000000
 g: ∀j,(e.vars.getD j default).sigla.length≤200
theorem qwb {a:Ap} (hz:qrk a) (k y:Nat):EnZ (enK a k y):=by
 refine ⟨?_,?_,?_,?_⟩
 ·show (suK a k y).length≤200
  unfold suK
  split
  ·exact qmb _ _ _
  ·exact Nat.zero_le _
 ·show (vrK a k y).length≤_
  rw [qna]
  unfold vrI
  have h1:=List.length_filter_le (vrP a k y) (List.range (a.l.getD k default).rds.length)
  rw [List.length_range]at h1
  exact Nat.le_trans h1 (hz.un.rd k)
 ·intro j
  show ((vrK a k y).getD j default).words.length≤_
  by_cases hj:j<(vrK a k y).length
  ·obtain ⟨r,_,e⟩:=qf5 hj
   rw [e]
   exact hz.un.wd k r
  ·rw [gdqA,List.getElem?_eq_none (by omega)]
   exact Nat.zero_le _
 ·intro j
  show ((vrK a k y).getD j default).sigla.length≤_
  by_cases hj:j<(vrK a k y).length
  ·obtain ⟨r,_,e⟩:=qf5 hj
   rw [e]
   exact qmb _ _ _
  ·rw [gdqA,List.getElem?_eq_none (by omega)]
   exact Nat.zero_le _
theorem qwc {a:Ap} (hz:qrk a) (i:Nat):EnZ ((enR a).getD i default):=by
 by_cases hi:i<(enR a).length
 ·have hm:=qcs hi
  by_cases hE:enE a=0
  ·obtain ⟨k,_,y,_,_,e⟩:=(qks hE).1 hm
   rw [e]
   exact qwb hz k y
  ·unfold enR at hi
   rw [if_neg hE]at hi
   cases hi
 ·rw [gdqA,List.getElem?_eq_none (by omega)]
  exact ⟨Nat.zero_le _,Nat.zero_le _,fun _=>Nat.zero_le _,fun _=>Nat.zero_le _⟩
end RC
end
section
open Go Go.Proofs AF HY LN
namespace RC
set_option maxHeartbeats 4000000
deriving instance DecidableEq for Va
deriving instance DecidableEq for En
def tkS (s:Str):Tk:=⟨s,s,[],0,0,[]⟩
def qdK:Str:= [100,101,117,115]
def quN:Str:= [101,115,116]
def qbd:Str:= [98,111,110,117,115]
def xCo:Co:=⟨[97],[[65],[66]],[[tkS qdK,tkS quN,tkS qbd],[tkS qdK,tkS qbd]],[[0,0],[1,-1],[2,1]]⟩
def xUn:List Un:= [⟨1,2,[⟨[quN],[0]⟩,⟨[],[1]⟩]⟩]
def xCl:List (List Str):= [[[98,97,115,101],[111,109,105,115,115,105,111,110]]]
def xBa:List Wd:= [⟨qdK,0,-1,-1,false,false,[]⟩,⟨quN,1,0,-1,false,false,[]⟩,⟨qbd,2,-1,-1,false,false,[]⟩]
def xLa:List Str:= [[111,109,105,115,115,105,111,110]]
def xAp:Ap:=⟨xCo,xUn,xCl,xBa,[],xLa,[true]⟩
def xEn:List En:= [⟨0,1,2,true,[[65]],[⟨[],[[66]]⟩]⟩]
def xL3:List Str:= [[97,32,98],[99],[100]]
theorem qBe:enE xAp=0:=by decide+kernel
theorem qBf:enR xAp=xEn:=by decide+kernel
theorem quy:lyR xL3 [120]=2∧lyE xL3=0:=by decide+kernel
theorem qBg:lyR xL3 [98]=0:=by decide+kernel
end RC
end
section
namespace AF
open Go
end AF
end
section
open Go Go.Proofs AF
def qs3:List Nat:= [96]
def qBj:C:=
 ((C.ops [MC 0 (.bool false)]).seq ((C.ops [⟨some 10,none,.build [.str [],i6 0,i6 0,i6 0,.bool false,.bool false,.str []] [(0,1),(2,1),(3,1)],[.c (.str [100,101,117,
 115]),.c (i6 (-1)),.c (i6 (-1))]⟩,⟨some 11,none,.build [.str [],i6 0,i6 0,i6 0,.bool false,.bool false,.str []] [(0,1),(1,1),(3,1)],[.c (.str [101,115,116]),.c
 (i6 1),.c (i6 (-1))]⟩,⟨some 12,none,.build [.str [],i6 0,i6 0,i6 0,.bool false,.bool false,.str []] [(0,1),(1,1),(2,1),(3,1)],[.c (.str [98,111,110,117,115]),
 .c (i6 2),.c (i6 (-1)),.c (i6 (-1))]⟩,⟨some 13,none,.bslc 0 7 3 64 [.str [],i6 0,i6 0,i6 0,.bool false,.bool false,.str []] [(0,7),(7,7),(14,7)],[.t 10,.t 11,.t
 12]⟩,MV 1 13]).seq ((C.ops [⟨some 14,none,.bslc 1 1 1 9 [.str []] [(0,1)],[.c (.str [101,115,116])]⟩,⟨some 15,none,.bslc 2 1 1 3 [i6 0] [(0,1)],[.c (i6 0)]⟩,⟨some 16,
 none,.build [.nl,.nl] [(0,1),(1,1)],[.t 14,.t 15]⟩,⟨some 17,none,.bslc 3 1 1 3 [i6 0] [(0,1)],[.c (i6 1)]⟩,⟨some 18,none,.build [.nl,.nl] [(1,1)],[.t 17]⟩,⟨some
 19,none,.bslc 4 2 2 89 [.nl,.nl] [(0,2),(2,2)],[.t 16,.t 18]⟩,⟨some 20,none,.build [i6 0,i6 0,.nl] [(0,1),(1,1),(2,1)],[.c (i6 1),.c (i6 2),.t 19]⟩,⟨some 21,
 none,.bslc 5 3 1 83 [i6 0,i6 0,.nl] [(0,3)],[.t 20]⟩,MV 2 21]).seq ((C.ops [ON 23 (.call 97 true) [],MV 24 2,⟨some 25,none,.bslc 6 1 2 9 [.str []] [(0,1),(1,1)],[.c
 (.str [98,97,115,101]),.c (.str [111,109,105,115,115,105,111,110])]⟩,⟨some 26,none,.bslc 7 1 1 22 [.nl] [(0,1)],[.t 25]⟩,MV 27 1,⟨some 28,none,.bslc 8 1 1 9
 [.str []] [(0,1)],[.c (.str [111,109,105,115,115,105,111,110])]⟩,⟨some 29,none,.bslc 9 1 1 4 [.bool false] [(0,1)],[.c (.bool true)]⟩,ON 30 (.call 96 false) [.t 23,
 .t 24,.t 26,.t 27,.c .nl,.t 28,.t 29],MV 22 30,O1 31 (.ext 0) 22,O1 32 (.ext 1) 22,MV 3 31,MV 4 32]).seq ((C.ops [⟨some 33,none,.bslc 10 1 1 9 [.str []] [(0,1)],[.c
 (.str [65])]⟩,⟨some 34,none,.bslc 11 1 1 9 [.str []] [(0,1)],[.c (.str [66])]⟩,⟨some 35,none,.build [.nl,.nl] [(1,1)],[.t 34]⟩,⟨some 36,none,.bslc 12 2 1 85 [.nl,
 .nl] [(0,2)],[.t 35]⟩,⟨some 37,none,.build [i6 0,i6 0,i6 0,.bool false,.nl,.nl] [(1,1),(2,1),(3,1),(4,1),(5,1)],[.c (i6 1),.c (i6 2),.c (.bool true),.t 33,
 .t 36]⟩,⟨some 38,none,.bslc 13 6 1 58 [i6 0,i6 0,i6 0,.bool false,.nl,.nl] [(0,6)],[.t 37]⟩,MV 5 38]).seq ((C.ops [⟨some 40,none,.bslc 14 1 3 9 [.str []] [(0,1),(1,
 1),(2,1)],[.c (.str [97,32,98]),.c (.str [99]),.c (.str [100])]⟩,OC 41 (.call 27 true) 40 (.str [120]),MV 39 41,O1 42 (.ext 0) 39,O1 43 (.ext 1) 39,MV 6 42,MV 7
 43]).seq ((C.ops [⟨some 45,none,.bslc 15 1 3 9 [.str []] [(0,1),(1,1),(2,1)],[.c (.str [97,32,98]),.c (.str [99]),.c (.str [100])]⟩,OC 46 (.call 27 true) 45 (.str
 [98]),MV 44 46,O1 47 (.ext 0) 44,O1 48 (.ext 1) 44,MV 8 47,MV 9 48]).seq ((C.ops [MV 49 4,MV 50 7,MV 51 9,ON 52 (.mm true) [.t 49,.t 50,.t 51],BC 53 .eql 52 (i6 0),MV
 54 53,MG 55 54 true 3,MG 56 54 true 5,P2 57 54 true (.call 29 true) 55 56,PF 58 54 57,MV 59 58,MG 60 59 true 6,PC 61 59 true (.bin .eql) 60 (i6 2),PF 62 59 61,MV 63 62,MG
 64 63 true 8,PC 65 63 true (.bin .eql) 64 (i6 0),PF 66 63 65,MV 0 66]).seq
 C.ret))))))))
theorem qzS:qN Tryz.prog 24 67 16 [RV.tmp 0] qBj:=fi Tryz.f24 [13,14,15,17,19,21,25,26,28,29,33,34,36,38,40,45] qs3 [] (by kernel_rfl) (by kernel_rfl) (by kernel_rfl) (by kernel_rfl)
end
section
open Go Go.Proofs AF HY LN
namespace RC
set_option maxHeartbeats 16000000
theorem il1 {f g:Nat→List AV} (h:f 0=g 0):ILe (.sl 1 f) (.sl 1 g):=ILe.sl_eq fun i hi=>by
 obtain rfl:i=0:=by omega
 exact h
theorem il2 {f g:Nat→List AV} (h0:f 0=g 0) (h1:f 1=g 1):ILe (.sl 2 f) (.sl 2 g):=ILe.sl_eq fun i hi=>by
 match i,hi with
 |0,_=>exact h0
 |1,_=>exact h1
 |n+2,hi=>exact absurd hi (by omega)
theorem il3 {f g:Nat→List AV} (h0:f 0=g 0) (h1:f 1=g 1) (h2:f 2=g 2):ILe (.sl 3 f) (.sl 3 g):=ILe.sl_eq fun i hi=>by
 match i,hi with
 |0,_=>exact h0
 |1,_=>exact h1
 |2,_=>exact h2
 |n+3,hi=>exact absurd hi (by omega)
theorem im1 {f g:Nat→List AV} (h:kT (f 0) (g 0)):ILe (.sl 1 f) (.sl 1 g):=ILe.sl fun i hi=>by
 obtain rfl:i=0:=by omega
 exact h
theorem im2 {f g:Nat→List AV} (h0:kT (f 0) (g 0)) (h1:kT (f 1) (g 1)):ILe (.sl 2 f) (.sl 2 g):=ILe.sl fun i hi=>by
 match i,hi with
 |0,_=>exact h0
 |1,_=>exact h1
 |n+2,hi=>exact absurd hi (by omega)
theorem vl1 {f g:Nat→List AV} (h:kT (f 0) (g 0)):VLe (.sl 1 f) (.sl 1 g):=VLe.sl fun i hi=>by
 obtain rfl:i=0:=by omega
 exact h
theorem vl2 {f g:Nat→List AV} (h0:kT (f 0) (g 0)) (h1:kT (f 1) (g 1)):VLe (.sl 2 f) (.sl 2 g):=VLe.sl fun i hi=>by
 match i,hi with
 |0,_=>exact h0
 |1,_=>exact h1
 |n+2,hi=>exact absurd hi (by omega)
theorem vl3 {f g:Nat→List AV} (h0:kT (f 0) (g 0)) (h1:kT (f 1) (g 1)) (h2:kT (f 2) (g 2)):VLe (.sl 3 f) (.sl 3 g):=VLe.sl fun i hi=>by
 match i,hi with
 |0,_=>exact h0
 |1,_=>exact h1
 |2,_=>exact h2
 |n+3,hi=>exact absurd hi (by omega)
theorem ie {a b:AV} (h:a=b):ILe a b:=by rw [h];exact ILe.refl _
theorem qAM (s:Str) (h:List AObj):ACalls Tryz.prog 163 [.str s] h (.agg (tkC (tkS s))) h:=by
 unfold tkS tkC
 refine acO qwv ?_
 simp (disch:=omega) only [qvb,List.replicate,go_sem]
 repeat' first
  |((first|apply qd|apply qb);exact rvk;simp only [go_sem];first|exact VLe.refl _|apply qe|apply qa|apply qf|skip)
  |with_reducible first|apply And.intro|intro _
 all_goals try exact clz
theorem qux:qsV xAp=false:=by decide+kernel
theorem qC2:qrk xAp:=qkS qux
theorem qAI (h:List AObj):ACalls Tryz.prog 97 [] h (.agg (coC xCo)) h:=by
 have c1:=fun s h=>qAM s h
 unfold tkC tkS at c1
 refine acO qAf ?_
 simp (disch:=omega) only [qBy,List.replicate,go_sem]
 repeat' first
  |((first|refine cA (c1 qdK _) ?_ ?_|refine cG (fun e=>c1 qdK _) ?_ ?_|refine cA (c1 quN _) ?_ ?_|refine cG (fun e=>c1 quN _) ?_ ?_|refine cA (c1 qbd _) ?_ ?_|refine cG (fun e=>c1 qbd _) ?_ ?_|refine cA (c1 qdK _) ?_ ?_|refine cG (fun e=>c1 qdK _) ?_ ?_|refine cA (c1 qbd _) ?_ ?_|refine cG (fun e=>c1 qbd _) ?_ ?_|refine cU (fun _=>c1 qdK _) ?_ ?_|refine cU (fun _=>c1 quN _) ?_ ?_|refine cU (fun _=>c1 qbd _) ?_ ?_|refine cU (fun _=>c1 qdK _) ?_ ?_|refine cU (fun _=>c1 qbd _) ?_ ?_);(next=>exact flk);simp (disch:=omega) only [go_sem])
  |((first|apply qd|apply qb);exact rvk;simp only [go_sem];first|exact VLe.refl _|apply qe|apply qa|apply qf|skip)
  |with_reducible first|apply And.intro|intro _
 all_goals try exact clz
 refine VLe.agg ⟨VLe.refl _,vl2 ⟨ie rfl,trivial⟩ ⟨ie rfl,trivial⟩,vl2 ⟨?a1,trivial⟩ ⟨?a2,trivial⟩,vl3 ⟨?a3,trivial⟩ ⟨?a4,trivial⟩ ⟨?a5,trivial⟩,trivial⟩
 case a1=>simp only [go_sem];exact il3 rfl rfl rfl
 case a2=>simp only [go_sem];exact il2 rfl rfl
 case a3=>simp only [go_sem];exact il2 rfl rfl
 case a4=>simp only [go_sem];exact il2 rfl rfl
 case a5=>simp only [go_sem];exact il2 rfl rfl
theorem qAs (a:Ap) (h:List AObj) (hz:qrk a) (hp:qbh SG h):ACalls Tryz.prog 25 [.agg (apC a)] h (.tup [qaH (enR a),.int .i64 (enE a)]) h:=by
 have c1:=fun l=>qBA a (h++l) hz (hp.app l)
 unfold coC at c1
 refine acO qzT ?_
 simp (disch:=omega) only [qBk,List.replicate,apC,go_sem]
 repeat' first
  |((first|refine cA (c1 _) ?_ ?_|refine cG (fun e=>c1 _) ?_ ?_|refine cU (fun _=>c1 _) ?_ ?_);(next=>exact flk);simp (disch:=omega) only [apC,go_sem])
  |((first|apply qd|apply qb);exact rvk;simp only [go_sem];first|exact VLe.refl _|apply qe|apply qa|apply qf|skip)
  |with_reducible first|apply And.intro|intro _
 all_goals try exact clz
theorem qzu (h:List AObj) (hp:qbh SG h):ACalls Tryz.prog 24 [] h (.bool true) h:=by
 have c1:=fun h=>qAI h
 refine acO qzS ?_
 simp (disch:=omega) only [qBj,List.replicate,go_sem]
 repeat' first
  |((first|refine cA (c1 _) ?_ ?_|refine cG (fun e=>c1 _) ?_ ?_|refine cU (fun _=>c1 _) ?_ ?_);(next=>exact flk);simp (disch:=omega) only [go_sem])
  |((first|apply qd|apply qb);exact rvk;simp only [go_sem];first|exact VLe.refl _|apply qe|apply qa|apply qf|skip)
  |with_reducible first|apply And.intro|intro _
 all_goals try exact clz
 have zm:valP (.mm true) [.int .i64 0,.int .i64 0,.int .i64 0]= .int .i64 0:=rfl
 have zn:okP (.mm true) [.int .i64 0,.int .i64 0,.int .i64 0]=True:=eq_true (by simp [okP,qar])
 have c2:=fun l=>qBA xAp (h++l) qC2 (hp.app l)
 rw [qBe,qBf]at c2
 refine qjO (r:= .tup [qaH xEn,.int .i64 0]) (h':=h++ [.emp 2,.emp 2,.emp 2,.emp 2,.emp 2,.emp 2,.emp 2,.emp 2,.emp 2,.emp 2,.emp 0,.emp 0,.emp 0,.emp 0,.emp 0,.emp 0])
  (qCm [h.length,h.length+1,h.length+2,h.length+3,h.length+4,h.length+5,h.length+6,h.length+7,h.length+8,h.length+9] (by simp only [kg,go_sem]) ?c) (by exact flk) ?_
 case c=>
  simp only [qcP,go_sem]
  refine ACalls.le (c2 _) ?_ (VLe.refl _)
  obtain ⟨fz,hfz⟩: ∃fz:Nat→Bool,fz=fun k=> [h.length,h.length+1,h.length+2,h.length+3,h.length+4,h.length+5,h.length+6,h.length+7,h.length+8,h.length+9].contains k:=⟨_,rfl⟩
  rw [←hfz]
  have f0:fz h.length=true:=by rw [hfz];simp
  have f1:fz (h.length+1)=true:=by rw [hfz];simp
  have f2:fz (h.length+2)=true:=by rw [hfz];simp
  have f3:fz (h.length+3)=true:=by rw [hfz];simp
  have f4:fz (h.length+4)=true:=by rw [hfz];simp
  have f5:fz (h.length+5)=true:=by rw [hfz];simp
  have f6:fz (h.length+6)=true:=by rw [hfz];simp
  have f7:fz (h.length+7)=true:=by rw [hfz];simp
  have f8:fz (h.length+8)=true:=by rw [hfz];simp
  have f9:fz (h.length+9)=true:=by rw [hfz];simp
  have g0:([h.length,h.length+1,h.length+2,h.length+3,h.length+4,h.length+5,h.length+6,h.length+7,h.length+8,h.length+9]:List Nat).contains h.length=true:=by simp
  have g1:([h.length,h.length+1,h.length+2,h.length+3,h.length+4,h.length+5,h.length+6,h.length+7,h.length+8,h.length+9]:List Nat).contains (h.length+1)=true:=by simp
  have g2:([h.length,h.length+1,h.length+2,h.length+3,h.length+4,h.length+5,h.length+6,h.length+7,h.length+8,h.length+9]:List Nat).contains (h.length+2)=true:=by simp
  have g3:([h.length,h.length+1,h.length+2,h.length+3,h.length+4,h.length+5,h.length+6,h.length+7,h.length+8,h.length+9]:List Nat).contains (h.length+3)=true:=by simp
  have g4:([h.length,h.length+1,h.length+2,h.length+3,h.length+4,h.length+5,h.length+6,h.length+7,h.length+8,h.length+9]:List Nat).contains (h.length+4)=true:=by simp
  have g5:([h.length,h.length+1,h.length+2,h.length+3,h.length+4,h.length+5,h.length+6,h.length+7,h.length+8,h.length+9]:List Nat).contains (h.length+5)=true:=by simp
  have g6:([h.length,h.length+1,h.length+2,h.length+3,h.length+4,h.length+5,h.length+6,h.length+7,h.length+8,h.length+9]:List Nat).contains (h.length+6)=true:=by simp
  have g7:([h.length,h.length+1,h.length+2,h.length+3,h.length+4,h.length+5,h.length+6,h.length+7,h.length+8,h.length+9]:List Nat).contains (h.length+7)=true:=by simp
  have g8:([h.length,h.length+1,h.length+2,h.length+3,h.length+4,h.length+5,h.length+6,h.length+7,h.length+8,h.length+9]:List Nat).contains (h.length+8)=true:=by simp
  have g9:([h.length,h.length+1,h.length+2,h.length+3,h.length+4,h.length+5,h.length+6,h.length+7,h.length+8,h.length+9]:List Nat).contains (h.length+9)=true:=by simp
  clear hfz
  simp only [go_sem,coC,List.map_cons,List.map_nil,f0,f1,f2,f3,f4,f5,f6,f7,f8,f9,g0,g1,g2,g3,g4,g5,g6,g7,g8,g9,if_true]
  refine ⟨VLe.refl _,vl1 ⟨ie rfl,ie rfl,?b1,trivial⟩,vl1 ⟨?b2,trivial⟩,VLe.sl_eq rfl (fun i hi=> ?b3),kj,VLe.sl_eq rfl (fun i hi=> ?b4),VLe.sl_eq rfl (fun i hi=> ?b5),trivial⟩
  case b1=>
   simp only [go_sem,f0,f1,f2,f3,f4,f5,f6,f7,f8,f9,g0,g1,g2,g3,g4,g5,g6,g7,g8,g9,if_true]
   refine im2 ⟨?u1,?u2,trivial⟩ ⟨ILe.nl,?u3,trivial⟩
   all_goals
    simp only [go_sem,f0,f1,f2,f3,f4,f5,f6,f7,f8,f9,g0,g1,g2,g3,g4,g5,g6,g7,g8,g9,if_true]
    exact il1 rfl
  case b2=>
   simp only [go_sem,f0,f1,f2,f3,f4,f5,f6,f7,f8,f9,g0,g1,g2,g3,g4,g5,g6,g7,g8,g9,if_true]
   exact il2 rfl rfl
  case b3=>
   match i,hi with
   |0,_=>rfl
   |1,_=>rfl
   |2,_=>rfl
   |n+3,hi=>exact absurd hi (by omega)
  case b4=>
   obtain rfl:i=0:=by omega
   rfl
  case b5=>
   obtain rfl:i=0:=by omega
   rfl
 simp (disch:=omega) only [go_sem]
 repeat' first
  |((first|apply qd|apply qb);exact rvk;simp only [go_sem];first|exact VLe.refl _|apply qe|apply qa|apply qf|skip)
  |with_reducible first|apply And.intro|intro _
 all_goals try exact clz
 have lz: ∀i,(xL3.getD i []).length≤100000000:=zd xL3 (fun s=>s.length≤100000000) (by decide) (by decide)
 refine cA (r:= .tup [.int .i64 2,.int .i64 0]) ?d (by exact flk) ?_
 case d=>
  have c2:=lyP xL3 [120] [] (by decide) lz
  rw [quy.1,quy.2]at c2
  refine ACalls.borrow (c2.le ?_ (VLe.refl _)) (by simp [qaY,jG])
  simp only [List.map_cons,List.map_nil,go_sem]
  exact ⟨VLe.sl_eq rfl (fun i hi=>by
   match i,hi with
   |0,_=>rfl
   |1,_=>rfl
   |2,_=>rfl
   |n+3,hi=>exact absurd hi (by omega)),VLe.refl _,trivial⟩
 simp (disch:=omega) only [go_sem]
 repeat' first
  |((first|apply qd|apply qb);exact rvk;simp only [go_sem];first|exact VLe.refl _|apply qe|apply qa|apply qf|skip)
  |with_reducible first|apply And.intro|intro _
 all_goals try exact clz
 refine cA (r:= .tup [.int .i64 0,.int .i64 0]) ?e (by exact flk) ?_
 case e=>
  have c2:=lyP xL3 [98] [] (by decide) lz
  rw [qBg,quy.2]at c2
  refine ACalls.borrow (c2.le ?_ (VLe.refl _)) (by simp [qaY,jG])
  simp only [List.map_cons,List.map_nil,go_sem]
  exact ⟨VLe.sl_eq rfl (fun i hi=>by
   match i,hi with
   |0,_=>rfl
   |1,_=>rfl
   |2,_=>rfl
   |n+3,hi=>exact absurd hi (by omega)),VLe.refl _,trivial⟩
 simp (disch:=omega) only [zm,zn,go_sem]
 repeat' first
  |((first|apply qd|apply qb);exact rvk;simp only [go_sem];first|exact VLe.refl _|apply qe|apply qa|apply qf|skip)
  |with_reducible first|apply And.intro|intro _
 all_goals try exact clz
 have xz:EqZ xEn:=by
  refine ⟨by decide,?_,?_,?_,?_⟩
  ·exact zd xEn (fun e=>e.sup.length≤1000000000) (by decide) (by decide)
  ·exact zd xEn (fun e=>e.vars.length≤1000000000) (by decide) (by decide)
  ·exact zd xEn (fun e=> ∀j,(e.vars.getD j default).words.length≤1000000000) (fun j=>by simp [show (default:En).vars= []from rfl,show (default:Va).words= []from rfl]) fun i hi=>by
    obtain rfl:i=0:=by have:xEn.length=1:=rfl;omega
    exact zd _ (fun v:Va=>v.words.length≤1000000000) (by decide) (by decide)
  ·exact zd xEn (fun e=> ∀j,(e.vars.getD j default).sigla.length≤1000000000) (fun j=>by simp [show (default:En).vars= []from rfl,show (default:Va).sigla= []from rfl]) fun i hi=>by
    obtain rfl:i=0:=by have:xEn.length=1:=rfl;omega
    exact zd _ (fun v:Va=>v.sigla.length≤1000000000) (by decide) (by decide)
 refine cG (fun _=>ACalls.borrow ((qCJ xEn [] xz).le ?g1 (VLe.refl _)) rfl) (fun _=>by exact flk) ?_
 case g1=>
  simp only [List.map_cons,List.map_nil,go_sem]
  refine ⟨VLe.refl _,vl1 ⟨ie rfl,ie rfl,ie rfl,ie rfl,?h1,?h2,trivial⟩,trivial⟩
  case h1=>simp only [go_sem,if_true];exact il1 rfl
  case h2=>
   simp only [go_sem,if_true]
   refine im1 ⟨ILe.nl,?h3,trivial⟩
   simp only [go_sem,if_true]
   exact il1 rfl
 simp (disch:=omega) only [go_sem]
 repeat' first
  |((first|apply qd|apply qb);exact rvk;simp only [go_sem];first|exact VLe.refl _|apply qe|apply qa|apply qf|skip)
  |with_reducible first|apply And.intro|intro _
 all_goals try exact clz
end RC
end
section
open Go Go.Proofs AF
end
section
open Go Go.Proofs AF HY LN
namespace RC
set_option maxHeartbeats 16000000
end RC
end
section
open Go Go.Proofs AF
end
section
open Go Go.Proofs AF HY LN
namespace RC
set_option maxHeartbeats 16000000
section
variable {q : En → Bool} {L : List En} {J : Nat}
end
section
variable {k v w : Nat} {h l : List AObj} {ty : TypeId} {cs : List AV}
end
end RC
end
section
open Go Go.Proofs AF
end
section
open Go Go.Proofs AF HY LN
namespace RC
set_option maxHeartbeats 16000000
end RC
end
section
open Go Go.Proofs AF
end
section
open Go Go.Proofs AF
end
section
open Go Go.Proofs AF HY LN
namespace RC
set_option maxHeartbeats 16000000
theorem qBd (b:List Wd) (h:List AObj) (hn:b.length≤1000000):ACalls Tryz.prog 48 [qK b] h (strs (qaR b)) h:=by
 refine acO qz0 ?_
 simp (disch:=omega) only [qBo,List.replicate,qK,go_sem]
 repeat' first
  |((first|apply qd|apply qb);exact rvk;simp only [go_sem];first|exact VLe.refl _|apply qe|apply qa|apply qf|skip)
  |with_reducible first|apply And.intro|intro _
 all_goals try exact clz
 refine qt (T:=fun s:Nat×Nat×AObj×AObj=>qU 19 [(6,qK b),(7,.int .i64 b.length),(8,.int .i64 s.1),(3,.osl (h.length+1) s.2.1 1 0 s.1)])
  (H:=fun s=>h++ [.emp 1,zT s.2.1 9 (jj (qaR (b.take s.1))),s.2.2.1,s.2.2.2,.emp 0])
  (inv:=fun s=>s.1≤b.length∧qI [s.2.2.1] 0=true∧qI [s.2.2.2] 0=true) (m:=fun s=>b.length-s.1) (0,1,.emp 0,.emp 0) ⟨Nat.zero_le _,rfl,rfl⟩ (Wk.temps ?_) ?_
 ·(simp only [qK,List.replicate,List.take_zero,qaR,List.map_nil,go_sem,qk,qi,qg,qj];try (repeat' first|(with_reducible apply And.intro)|(apply qe;omega)|(apply qa;rfl)|exact VLe.refl _))
 rintro ⟨i,v,O1,O2⟩ ⟨i1,i2,i3⟩ K hK
 simp only at i1 i2 i3 hK
 have i2': ∀m,qI (O1::m) 0=true:=fun _=>i2
 have i3': ∀m,qI (O2::m) 0=true:=fun _=>i3
 have eL:(qaR (b.take i)).length=i:=by unfold qaR;rw [List.length_map,List.length_take];omega
 by_cases hi:i<b.length
 ·have k1:((i:Int)<b.length)=True:=eq_true (by omega)
  have hS:qaR (b.take (i+1))=qaR (b.take i)++ [(b.getD i default).text]:=by
   unfold qaR
   rw [List.take_add_one,zD hi,gdqA,zD hi,List.map_append]
   rfl
  obtain ⟨L,hL⟩: ∃L,L=qaR (b.take i):=⟨_,rfl⟩
  rw [←hL]at hS eL ⊢
  obtain ⟨w,hw⟩: ∃w,w=b.getD i default:=⟨_,rfl⟩
  have ew:=hw.symm
  rw [ew]at hS
  have eC:=jE L
  have eTk:List.take i (jj L)=jj L:=List.take_of_length_le (by omega)
  simp (disch:=omega) only [List.replicate,qK,wdC,k1,ew,i2',i3',eC,eL,eTk,Nat.mul_one,go_sem]
  repeat' first
   |((first|apply qd|apply qb);exact rvk;simp only [go_sem];first|exact VLe.refl _|apply qe|apply qa|apply qf|skip)
   |with_reducible first|apply And.intro|intro _
  all_goals try exact clz
  have eA:jj L++ [AV.str w.text]=jj (L++ [w.text]):=by simp [jj]
  have eD:(AV.str w.text::List.drop 1 (zu [AV.str []] 1))= [AV.str w.text]:=rfl
  rw [eA,eD]
  refine hK _ _ (i+1,v+1,.mem (qu (some O1)+1) 64 (wdC w),.mem (qu (some O2)+1) 9 [.str w.text]) ⟨hi,rfl,rfl⟩ (by simp only;omega) ?_
  simp only [hS,wdC]
  refine Wk.temps ?_
  (simp only [qK,wdC,List.replicate,go_sem,qk,qi,qg,qj];try (repeat' first|(with_reducible apply And.intro)|(apply qe;omega)|(apply qa;rfl)|exact VLe.refl _))
 have k1:((i:Int)<b.length)=False:=eq_false (by omega)
 obtain rfl:i=b.length:=by omega
 rw [List.take_length]at eL ⊢
 simp (disch:=omega) only [List.replicate,k1,go_sem]
 repeat' first
  |((first|apply qd|apply qb);exact rvk;simp only [go_sem];first|exact VLe.refl _|apply qe|apply qa|apply qf|skip)
  |with_reducible first|apply And.intro|intro _
 all_goals try exact clz
 exact qcd (fun _=>rfl) eL.symm
end RC
end
section
open Go Go.Proofs AF HY LN
namespace RC
set_option maxHeartbeats 16000000
end RC
end
section
open Go Go.Proofs AF HY LN
namespace RC
set_option maxHeartbeats 8000000
def qoj (names:List Str) (gs:List Gr) (p:Un) (v:Va):Bool:=decide (qbm names gs v.sigla=0)&&qZ (fun j=>decide ((p.rds.getD j default).words=v.words)&&decide ((p.rds.getD j default).src=kW names gs v.sigla)) p.rds.length
def qiC (p:Un) (w:List Str):Nat→List Int
 |0=> []
 |j+1=>if (p.rds.getD j default).words=w then (p.rds.getD j default).src else qiC p w j
def okB (names:List Str) (gs:List Gr) (w:List Str) (p:Un) (e:En):Bool:=
 if qZ (fun j=> !qoj names gs p (e.vars.getD j default)) e.vars.length=true then false else if e.pos=false then decide (e.sup.length=0) else
  decide (qbm names gs e.sup=0)&&decide (kW names gs e.sup=qiC p (kR w e.frm.toNat e.to.toNat) p.rds.length)
theorem qze {p:Un} {w:List Str} {r:Nat}: ∀ {n:Nat},r<n→(p.rds.getD r default).words=w→(∀j,j<n→j≠r→(p.rds.getD j default).words≠w)→qiC p w n=(p.rds.getD r default).src:=by
 intro n
 induction n with
 |zero=>intro h;exact absurd h (Nat.not_lt_zero r)
 |succ n ih=>
  intro h h1 h2
  unfold qiC
  by_cases e:n=r
  ·subst e;rw [if_pos h1]
  ·rw [if_neg (h2 n (by omega) e)]
   exact ih (by omega) h1 fun j hj=>h2 j (by omega)
theorem qzf {p:Un} {w:List Str}: ∀ {n:Nat},(∀j,j<n→(p.rds.getD j default).words≠w)→qiC p w n= []:=by
 intro n
 induction n with
 |zero=>intro _;rfl
 |succ n ih=>intro h;unfold qiC;rw [if_neg (h n (by omega))];exact ih fun j hj=>h j (by omega)
theorem qzO {a:Ap} (hE:enE a=0) {k y:Nat} (hk:k<a.l.length):okB a.x.sig a.gs (qaR a.b) (a.l.getD k default) (enK a k y)=true:=by
 obtain ⟨h,hs,_⟩:=qqB hE
 have hp:=qAx h.un hk
 unfold okB
 rw [if_neg]
 ·by_cases hpos:a.pos.getD y false=false
  ·rw [if_pos (show (enK a k y).pos=false from hpos)]
   show decide ((suK a k y).length=0)=true
   unfold suK
   rw [if_neg (fun hc=>by rw [hpos]at hc;cases hc.1)]
   rfl
  ·rw [if_neg (show¬(enK a k y).pos=false from hpos)]
   have hpos:a.pos.getD y false=true:=by simpa using hpos
   show (decide (qbm a.x.sig a.gs (suK a k y)=0)&&decide (kW a.x.sig a.gs (suK a k y)=qiC (a.l.getD k default) (kR (qaR a.b) (frK a k:Int).toNat (toK a k:Int).toNat) (a.l.getD k default).rds.length))=true
   rw [Int.toNat_natCast,Int.toNat_natCast,←qly h hk]
   unfold suK
   rcases zU (fun r=>decide (((a.l.getD k default).rds.getD r default).words=qnk a k)) (a.l.getD k default).rds.length with ⟨r,r1,r2,_,r4⟩|⟨r1,r2⟩
   ·have e:baK a k=(r:Nat):=r4
    have r2:=of_decide_eq_true r2
    rw [e,if_pos ⟨hpos,by omega⟩,Int.toNat_natCast]
    obtain ⟨_,s2,s3,_⟩:=qms hp hs r1
    have s2:qbm a.x.sig a.gs (shR a.x.sig a.gs ((a.l.getD k default).rds.getD r default).src)=0:=s2
    have s3:kW a.x.sig a.gs (shR a.x.sig a.gs ((a.l.getD k default).rds.getD r default).src)=((a.l.getD k default).rds.getD r default).src:=s3
    rw [s2,s3,qze r1 r2 fun j hj hne hw=> ?_]
    ·simp
    ·rcases Nat.lt_or_gt_of_ne hne with hl|hl
     ·exact hp.inv.ne j r hl r1 (hw.trans r2.symm)
     ·exact hp.inv.ne r j hl hj (r2.trans hw.symm)
   ·have e:baK a k= -1:=r2
    rw [e,if_neg (by omega),qog hs,qgm,qzf fun j hj=>of_decide_eq_false (r1 j hj)]
    rfl
 ·intro hc
  obtain ⟨j,hj,hv⟩:=qF.1 hc
  obtain ⟨r,r1,r2⟩:=qf5 (show j<(vrK a k y).length from hj)
  have rm:=(qt6.1 (List.mem_of_getElem? r1)).1
  obtain ⟨_,s2,s3,_⟩:=qms hp hs rm
  have hv:(!qoj a.x.sig a.gs (a.l.getD k default) ((vrK a k y).getD j default))=true:=hv
  rw [r2]at hv
  unfold qoj at hv
  rw [s2,s3,qF.2 ⟨r,rm,by rw [decide_eq_true rfl];show (decide (((a.l.getD k default).rds.getD r default).words=((a.l.getD k default).rds.getD r default).words)&&true)=true;simp⟩]at hv
  simp at hv
end RC
end
section
open Go Go.Proofs AF
def qcv:List Nat:= []
def c9s:C:=
 ((C.ops [O1 1 (.box 0 47) 0,MC 2 (.bool false)]).seq (((C.ops [O1 10 (.load (some 10)) 1,O1 11 (.call 23 true) 10]).seq (C.cond (.t 11) ((C.ops [ON 12 (.call 24 true) [],MV 2
 12]).seq C.ret) C.skip)).seq ((C.ops [O1 14 (.load (some 10)) 1,O1 15 (.call 25 true) 14,MV 13 15,O1 16 (.ext 0) 13,O1 17 (.ext 1) 13,MV 3 16,MV 4 17]).seq (((C.ops [MV 18 4,
 BC 19 .neq 18 (i6 0)]).seq (C.cond (.t 19) ((C.ops [ON 20 (.call 24 true) [],MV 2 20]).seq C.ret) C.skip)).seq ((C.ops [O1 21 (.fldA 6) 1,LD 22 21,O1 23 (.call 48 true) 22,
 ⟨some 5,none,.alloc 1 22 [.nl],[]⟩,ST 1 5 23]).seq (((C.ops [MV 24 3,O1 25 .len 24,MC 26 (i6 0)]).seq (C.block 0 ((C.ops [BI 27 .lss 26 25]).seq ((C.cond (.t 27) C.skip
 (C.exit 0)).seq ((C.block 1 ((C.ops [O2 28 (.idxA 6) 24 26,O1 29 (.load (some 6)) 28,⟨some 7,none,.alloc 2 58 [i6 0,i6 0,i6 0,.bool false,.nl,.nl],[]⟩,ST 6 7 29]).seq
 (((C.ops [O1 30 (.fldA 1) 7,LD 31 30,BC 32 .lss 31 (i6 0),MV 33 32,P1 34 33 false (.fldA 2) 7,P1 35 33 false (.load none) 34,P1 36 33 false (.load none) 5,P1 37 33 false
 .len 36,P2 38 33 false (.bin .gtr) 35 37,PT 39 33 38,MV 40 39,P1 41 40 false (.fldA 1) 7,P1 42 40 false (.load none) 41,P1 43 40 false (.fldA 2) 7,P1 44 40 false (.load
 none) 43,P2 45 40 false (.bin .gtr) 42 44,PT 46 40 45]).seq (C.cond (.t 46) ((C.ops [MC 2 (.bool false)]).seq C.ret) C.skip)).seq ((C.ops [O1 47 (.mkfn (Fn.func 49) 0) 1,⟨some
 8,none,.alloc 3 92 [.nilfn],[]⟩,ST 1 8 47]).seq ((C.ops [O1 48 (.fldA 4) 1,LD 49 48,ON 50 (.mkfn (Fn.func 55) 0) [.t 7,.t 8,.t 1,.t 5],O2 51 (.call 54 true) 49 50,MV 9
 51]).seq ((C.ops [MV 52 9,O1 53 (.un UnOp.not) 52,MV 54 53,P1 55 54 false (.fldA 0) 7,P1 56 54 false (.load none) 55,PC 57 54 false (.bin .lss) 56 (i6 0),PT 58 54 57,MV 59
 58,P1 60 59 false (.fldA 0) 7,P1 61 59 false (.load none) 60,P1 62 59 false (.fldA 9) 1,P1 63 59 false (.load none) 62,P1 64 59 false .len 63,P2 65 59 false (.bin .geq) 61
 64,PT 66 59 65,MV 67 66,P1 68 67 false (.fldA 3) 7,P1 69 67 false (.load none) 68,P1 70 67 false (.fldA 9) 1,P1 71 67 false (.load none) 70,P1 72 67 false (.fldA 0) 7,P1 73
 67 false (.load none) 72,P2 74 67 false (.idxA 1) 71 73,P1 75 67 false (.load none) 74,P2 76 67 false (.bool true) 69 75,PT 77 67 76]).seq (C.cond (.t 77) ((C.ops [MC 2 (.bool
 false)]).seq C.ret) C.skip))))))).seq (C.ops [BC 78 .add 26 (i6 1),MV 26 78])))).loop)).seq ((C.ops [ON 79 (.call 24 true) [],MV 2 79]).seq
 C.ret)))))))
theorem qAg:qN Tryz.prog 9 80 4 [RV.tmp 2] c9s:=fi Tryz.f9 [1,5,7,8] qcv [] (by kernel_rfl) (by kernel_rfl) (by kernel_rfl) (by kernel_rfl)
def qzy:C:=
 ((C.ops [O1 3 (.box 0 83) 0,O1 4 (.box 1 85) 1,MC 5 (.bool false)]).seq ((C.ops [O1 9 (.fldA 0) 2,O1 10 (.fldA 1) 9,LD 11 10,O1 12 (.fldA 7) 2,LD 13 12,O1 14 (.fldA 1) 4,LD
 15 14,ON 16 (.call 50 true) [.t 11,.t 13,.t 15],MV 8 16,O1 17 (.ext 0) 8,O1 18 (.ext 1) 8,⟨some 6,none,.alloc 2 62 [.nl],[]⟩,ST 1 6 17,MV 7 18]).seq ((C.ops [MV 19 7,
 BC 20 .eql 19 (i6 0),MV 21 20,P1 22 21 true (.fldA 2) 3,P1 23 21 true (.load none) 22,P2 24 21 true (.mkfn (Fn.func 52) 0) 4 6,P2 25 21 true (.call 51 true) 23 24,PF 26 21
 25,MV 5 26]).seq
 C.ret)))
theorem qxe:qN Tryz.prog 49 27 3 [RV.tmp 5] qzy:=fi Tryz.f49 [3,4,6] qcv [] (by kernel_rfl) (by kernel_rfl) (by kernel_rfl) (by kernel_rfl)
def qvN:C:=
 ((C.ops [O1 5 (.box 0 83) 0,MC 6 (.bool false)]).seq (((C.ops [O1 12 (.fldA 5) 1,LD 13 12,O2 14 (.mkfn (Fn.func 57) 0) 2 5,O2 15 (.call 56 true) 13 14]).seq (C.cond (.t 15)
 ((C.ops [MC 6 (.bool false)]).seq C.ret) C.skip)).seq (((C.ops [O1 16 (.fldA 3) 1,LD 17 16,O1 18 (.un UnOp.not) 17]).seq (C.cond (.t 18) ((C.ops [O1 19 (.fldA 4) 1,LD 20 19,O1
 21 .len 20,BC 22 .eql 21 (i6 0),MV 6 22]).seq C.ret) C.skip)).seq ((C.ops [O1 24 (.fldA 0) 3,O1 25 (.fldA 1) 24,LD 26 25,O1 27 (.fldA 7) 3,LD 28 27,O1 29 (.fldA 4) 1,LD 30
 29,ON 31 (.call 50 true) [.t 26,.t 28,.t 30],MV 23 31,O1 32 (.ext 0) 23,O1 33 (.ext 1) 23,MV 7 32,MV 8 33]).seq ((C.ops [ON 9 (.nilo 1 1 3) []]).seq (((C.ops [O1 34 (.fldA
 2) 5,LD 35 34,O1 36 .len 35,MC 37 (i6 0)]).seq (C.block 0 ((C.ops [BI 38 .lss 37 36]).seq ((C.cond (.t 38) C.skip (C.exit 0)).seq ((C.block 1 ((C.ops [O2 39 (.idxA 2) 35 37,O1
 40 (.load (some 2)) 39,⟨some 11,none,.alloc 2 89 [.nl,.nl],[]⟩,ST 2 11 40]).seq ((C.ops [O1 41 (.fldA 0) 11,LD 42 41,LD 43 4,O1 44 (.fldA 1) 1,LD 45 44,O1 46 (.fldA 2)
 1,LD 47 46,ON 48 (.slc 1 true true) [.t 43,.t 45,.t 47],O2 49 (.call 53 true) 42 48]).seq (C.cond (.t 49) (C.ops [O1 50 (.fldA 1) 11,LD 51 50,MV 9 51]) C.skip)))).seq (C.ops
 [BC 52 .add 37 (i6 1),MV 37 52])))).loop)).seq ((C.ops [MV 53 8,BC 54 .eql 53 (i6 0),MV 55 54,MG 56 55 true 7,MG 57 55 true 9,P2 58 55 true (.call 40 true) 56 57,PF 59 55
 58,MV 6 59]).seq
 C.ret)))))))
theorem qov:qN Tryz.prog 55 60 3 [RV.tmp 6] qvN:=fi Tryz.f55 [5,9,11] qcv [] (by kernel_rfl) (by kernel_rfl) (by kernel_rfl) (by kernel_rfl)
def qzA:C:=
 ((C.ops [O1 3 (.box 0 89) 0,MC 4 (.bool false)]).seq ((C.ops [O1 5 (.fldA 0) 3,LD 6 5,O1 7 (.fldA 0) 1,LD 8 7,O2 9 (.call 53 true) 6 8,MV 10 9,P1 11 10 true (.fldA 1) 3,P1
 12 10 true (.load none) 11,P1 13 10 true (.load none) 2,P2 14 10 true (.call 40 true) 12 13,PF 15 10 14,MV 4 15]).seq
 C.ret))
theorem qxg:qN Tryz.prog 52 16 1 [RV.tmp 4] qzA:=fi Tryz.f52 [3] qcv [] (by kernel_rfl) (by kernel_rfl) (by kernel_rfl) (by kernel_rfl)
def qBp:C:=
 ((C.ops [O1 3 (.box 0 85) 0,MC 4 (.bool false)]).seq ((C.ops [LD 5 1,O1 6 (.load (some 3)) 2,O1 7 (.load (some 2)) 3,ON 8 .callv [.t 5,.t 6,.t 7],O1 9 (.un UnOp.not) 8,MV 4
 9]).seq
 C.ret))
theorem qz4:qN Tryz.prog 57 10 1 [RV.tmp 4] qBp:=fi Tryz.f57 [3] qcv [] (by kernel_rfl) (by kernel_rfl) (by kernel_rfl) (by kernel_rfl)
end
section
open Go Go.Proofs AF HY LN
namespace RC
set_option maxHeartbeats 16000000
theorem qCA (r:Rd) (v:Va) (S:List Int) (h:List AObj) (h1:r.words.length≤1000000000) (h2:v.words.length≤1000000000) (h3:r.src.length≤1000000000) (h4:S.length≤1000000000):
  ACalls Tryz.prog 52 [.agg (rdC r),.ip (vaC v),.ip [qo S]] h (.bool (decide (r.words=v.words)&&decide (r.src=S))) h:=by
 have c1:=fun h=>qzQ r.words v.words h h1 h2
 have c2:=fun h=>qzP r.src S h h3 h4
 by_cases g1:r.words=v.words
 ·rw [decide_eq_true g1,Bool.true_and]
  simp only [decide_eq_true g1]at c1
  refine acO qxg ?_
  simp (disch:=omega) only [qzA,List.replicate,rdC,vaC,go_sem]
  repeat' first
   |((first|refine cA (c1 _) ?_ ?_|refine cG (fun e=>c1 _) ?_ ?_|refine cA (c2 _) ?_ ?_|refine cG (fun e=>c2 _) ?_ ?_|refine cU (fun _=>c1 _) ?_ ?_|refine cU (fun _=>c2 _) ?_ ?_);(next=>exact flk);simp (disch:=omega) only [rdC,vaC,go_sem])
   |((first|apply qd|apply qb);exact rvk;simp only [go_sem];first|exact VLe.refl _|apply qe|apply qa|apply qf|skip)
   |with_reducible first|apply And.intro|intro _
  all_goals try exact clz
 ·rw [decide_eq_false g1,Bool.false_and]
  simp only [decide_eq_false g1]at c1
  refine acO qxg ?_
  simp (disch:=omega) only [qzA,List.replicate,rdC,vaC,go_sem]
  repeat' first
   |(refine ql ( .bool false) ?_;simp (disch:=omega) only [rdC,vaC,go_sem])
   |((first|refine cA (c1 _) ?_ ?_|refine cG (fun e=>c1 _) ?_ ?_|refine cU (fun _=>c1 _) ?_ ?_);(next=>exact flk);simp (disch:=omega) only [rdC,vaC,go_sem])
   |((first|apply qd|apply qb);exact rvk;simp only [go_sem];first|exact VLe.refl _|apply qe|apply qa|apply qf|skip)
   |with_reducible first|apply And.intro|intro _
  all_goals try exact clz
theorem qB2 (L:List Rd) (v:Va) (S:List Int) (k1 w1 k2 w2:Nat) (h:List AObj) (hk1:qG k1 h=some (.mem w1 85 (vaC v))) (hk2:qG k2 h=some (.mem w2 62 [qo S])) (hz:qgZ L) (h2:v.words.length≤1000000000) (h4:S.length≤1000000000):
  ACalls Tryz.prog 51 [zB L,.fn (.func 52) [] [.op k1 w1 0,.op k2 w2 0]] h (.bool (qZ (fun j=>decide ((L.getD j default).words=v.words)&&decide ((L.getD j default).src=S)) L.length)) h:=by
 have hc1:=qM hk1
 have hc2:=qM hk2
 have hn:=hz.n
 unfold zB
 refine qhg qz1 ⟨rfl,rfl⟩ ⟨rfl,rfl⟩ (qaw qkJ L.length (fun j=>rdC (L.getD j default)) (fun j=> .agg (rdC (L.getD j default))) _ [] [.op k1 w1 0,.op k2 w2 0] _ h (fun i _=>⟨rfl,by simp [jb,rdC],rfl,rfl,rfl⟩) (fun i _=> ?_) (by omega))
 refine ACalls.borrow ?_ rfl
 have e:([AV.agg (rdC (L.getD i default))]++ [AV.op k1 w1 0,.op k2 w2 0]).map (rei (fun _=>true) h 8)= [.agg (rdC (L.getD i default)),.ip (vaC v),.ip [qo S]]:=by
  simp only [List.cons_append,List.nil_append,List.map_cons,List.map_nil,rei_op,if_true,hc1,hc2,ipOf_some,List.drop_zero,rei_agg]
  rfl
 rw [List.nil_append,e]
 exact qCA _ v S _ (hz.wd i) h2 (hz.sr i) h4
theorem rd1 (a:Ap) (p:Un) (v:Va) (h:List AObj) (hz:Szs a.x.sig a.gs) (hp:qgZ p.rds) (h2:v.words.length≤1000000000) (h3:v.sigla.length≤1000000000):
  ACalls Tryz.prog 49 [.agg (unC p),.agg (vaC v),.ip (apC a)] h (.bool (qoj a.x.sig a.gs p v)) h:=by
 have c50:=fun h=>qBC a.x.sig a.gs v.sigla h hz h3
 have hl:=qgl (names:=a.x.sig) (gs:=a.gs) (sg:=v.sigla)
 unfold qoj
 obtain ⟨E,hE⟩: ∃E,E=qbm a.x.sig a.gs v.sigla:=⟨_,rfl⟩
 obtain ⟨S,hS⟩: ∃S,S=kW a.x.sig a.gs v.sigla:=⟨_,rfl⟩
 rw [←hE,←hS]
 simp only [←hE,←hS]at c50
 rw [←hS]at hl
 have c51:=fun k1 w1 k2 w2 h hk1 hk2=>qB2 p.rds v S k1 w1 k2 w2 h hk1 hk2 hp h2 (by omega)
 by_cases g:E=0
 ·have q1:(E=0)=True:=eq_true g
  rw [decide_eq_true g,Bool.true_and]
  refine acO qxe ?_
  simp (disch:=omega) only [qzy,List.replicate,unC,vaC,apC,q1,go_sem]
  repeat' first
   |((first|refine cA (c50 _) ?_ ?_|refine cG (fun e=>c50 _) ?_ ?_|refine cU (fun _=>c50 _) ?_ ?_);(next=>exact flk);simp (disch:=omega) only [unC,vaC,apC,q1,go_sem])
   |((first|apply qd|apply qb);exact rvk;simp only [go_sem];first|exact VLe.refl _|apply qe|apply qa|apply qf|skip)
   |with_reducible first|apply And.intro|intro _
  all_goals try exact clz
  refine cG (fun _=>c51 (h.length+1) 1 (h.length+2) 1 _ ?b1 ?b2) (fun _=>by exact flk) ?_
  case b1=>simp only [go_sem];rfl
  case b2=>simp only [go_sem]
  simp (disch:=omega) only [go_sem]
  repeat' first
   |((first|apply qd|apply qb);exact rvk;simp only [go_sem];first|exact VLe.refl _|apply qe|apply qa|apply qf|skip)
   |with_reducible first|apply And.intro|intro _
  all_goals try exact clz
 ·have q1:(E=0)=False:=eq_false g
  rw [decide_eq_false g,Bool.false_and]
  refine acO qxe ?_
  simp (disch:=omega) only [qzy,List.replicate,unC,vaC,apC,q1,go_sem]
  repeat' first
   |(refine ql ( .bool false) ?_;simp (disch:=omega) only [unC,vaC,apC,q1,go_sem])
   |((first|refine cA (c50 _) ?_ ?_|refine cG (fun e=>c50 _) ?_ ?_|refine cU (fun _=>c50 _) ?_ ?_);(next=>exact flk);simp (disch:=omega) only [unC,vaC,apC,q1,go_sem])
   |((first|apply qd|apply qb);exact rvk;simp only [go_sem];first|exact VLe.refl _|apply qe|apply qa|apply qf|skip)
   |with_reducible first|apply And.intro|intro _
  all_goals try exact clz
theorem qCB (a:Ap) (p:Un) (v:Va) (h:List AObj) (hz:Szs a.x.sig a.gs) (hp:qgZ p.rds) (h2:v.words.length≤1000000000) (h3:v.sigla.length≤1000000000):
  ACalls Tryz.prog 57 [.agg (vaC v),.ip [.fn (.func 49) [] [.ip (apC a)]],.ip (unC p)] h (.bool (!qoj a.x.sig a.gs p v)) h:=by
 have c1:=fun h=>rd1 a p v h hz hp h2 h3
 unfold unC vaC at c1
 cases g:qoj a.x.sig a.gs p v
 all_goals
  simp only [g]at c1
  refine acO qz4 ?_
  simp (disch:=omega) only [qBp,List.replicate,unC,vaC,go_sem]
  repeat' first
   |(refine qy (c1 _) ?_;simp (disch:=omega) only [unC,vaC,go_sem])
   |((first|apply qd|apply qb);exact rvk;simp only [go_sem];first|exact VLe.refl _|apply qe|apply qa|apply qf|skip)
   |with_reducible first|apply And.intro|intro _
  all_goals try exact clz
theorem qB6 (a:Ap) (p:Un) (L:List Va) (k2 w2:Nat) (h:List AObj) (hk2:qG k2 h=some (.mem w2 83 (unC p)))
  (hz:Szs a.x.sig a.gs) (hp:qgZ p.rds) (hn:L.length≤1000000000) (hw: ∀j,(L.getD j default).words.length≤1000000000) (hg: ∀j,(L.getD j default).sigla.length≤1000000000):
  ACalls Tryz.prog 56 [qaS L,.fn (.func 57) [] [.ip [.fn (.func 49) [] [.ip (apC a)]],.op k2 w2 0]] h (.bool (qZ (fun j=> !qoj a.x.sig a.gs p (L.getD j default)) L.length)) h:=by
 have hc2:=qM hk2
 unfold qaS
 refine qhg qz3 ⟨rfl,rfl⟩ ⟨rfl,rfl⟩ (qaw qwn L.length (fun j=>vaC (L.getD j default)) (fun j=> .agg (vaC (L.getD j default))) _ [] [.ip [.fn (.func 49) [] [.ip (apC a)]],.op k2 w2 0] _ h (fun i _=>⟨rfl,by simp [jb,vaC],rfl,rfl,rfl⟩) (fun i _=> ?_) (by omega))
 refine ACalls.borrow ?_ rfl
 have e:([AV.agg (vaC (L.getD i default))]++ [.ip [.fn (.func 49) [] [.ip (apC a)]],AV.op k2 w2 0]).map (rei (fun _=>true) h 8)= [.agg (vaC (L.getD i default)),.ip [.fn (.func 49) [] [.ip (apC a)]],.ip (unC p)]:=by
  simp only [List.cons_append,List.nil_append,List.map_cons,List.map_nil,rei_op,if_true,hc2,ipOf_some,List.drop_zero,rei_agg,rei_ip]
  rfl
 rw [List.nil_append,e]
 exact qCB a p _ _ hz hp (hw i) (hg i)
theorem quv {p:Un} {w:List Str} (hp:qgZ p.rds): ∀n,(qiC p w n).length≤1000000000:=by
 intro n
 induction n with
 |zero=>exact Nat.zero_le _
 |succ n ih=>
  unfold qiC
  split
  ·exact hp.sr n
  ·exact ih
theorem rd2 (a:Ap) (p:Un) (e:En) (w:List Str) (h:List AObj) (hz:Szs a.x.sig a.gs) (hp:qgZ p.rds) (he:EnZ e) (hwl:w.length≤1000000000) (h1:0≤e.frm) (h2:e.frm≤e.to) (h3:e.to≤w.length):
  ACalls Tryz.prog 55 [.agg (unC p),.ip (enC e),.ip [.fn (.func 49) [] [.ip (apC a)]],.ip (apC a),.ip [strs w]] h (.bool (okB a.x.sig a.gs w p e)) h:=by
 have hpn:=hp.n
 have c56:=fun k2 w2 h hk=>qB6 a p e.vars k2 w2 h hk hz hp he.v he.w (fun j=>Nat.le_trans (he.g j) (by decide))
 have c50:=fun h=>qBC a.x.sig a.gs e.sup h hz (Nat.le_trans he.s (by decide))
 have hl:=qgl (names:=a.x.sig) (gs:=a.gs) (sg:=e.sup)
 unfold okB
 obtain ⟨E,hE⟩: ∃E,E=qbm a.x.sig a.gs e.sup:=⟨_,rfl⟩
 obtain ⟨S,hS⟩: ∃S,S=kW a.x.sig a.gs e.sup:=⟨_,rfl⟩
 obtain ⟨A,hA⟩: ∃A,A=qZ (fun j=> !qoj a.x.sig a.gs p (e.vars.getD j default)) e.vars.length:=⟨_,rfl⟩
 rw [←hE,←hS,←hA]
 simp only [←hE,←hS]at c50
 simp only [←hA]at c56
 rw [←hS]at hl
 cases A with
 |true=>
  rw [if_pos rfl]
  refine acO qov ?_
  simp (disch:=omega) only [qvN,List.replicate,unC,enC,apC,go_sem]
  repeat' first
   |((first|apply qd|apply qb);exact rvk;simp only [go_sem];first|exact VLe.refl _|apply qe|apply qa|apply qf|skip)
   |with_reducible first|apply And.intro|intro _
  all_goals try exact clz
  refine cA (c56 h.length 1 _ ?b1) (by exact flk) ?_
  case b1=>simp only [go_sem];rfl
  simp (disch:=omega) only [go_sem]
  repeat' first
   |((first|apply qd|apply qb);exact rvk;simp only [go_sem];first|exact VLe.refl _|apply qe|apply qa|apply qf|skip)
   |with_reducible first|apply And.intro|intro _
  all_goals try exact clz
 |false=>
  rw [if_neg (by simp)]
  have zs: ∀g,valL g .len [strs e.sup]= .int .i64 e.sup.length:=fun _=>rfl
  have zk: ∀g,okL g .len [strs e.sup]=True:=fun _=>eq_true trivial
  cases gp:e.pos with
  |false=>
   rw [if_pos rfl]
   by_cases g0:e.sup.length=0
   ·have q0:((e.sup.length:Int)=0)=True:=eq_true (by omega)
    rw [decide_eq_true g0]
    refine acO qov ?_
    simp (disch:=omega) only [qvN,List.replicate,unC,enC,apC,gp,go_sem]
    repeat' first
     |((first|apply qd|apply qb);exact rvk;simp only [go_sem];first|exact VLe.refl _|apply qe|apply qa|apply qf|skip)
     |with_reducible first|apply And.intro|intro _
    all_goals try exact clz
    refine cA (c56 h.length 1 _ ?b1) (by exact flk) ?_
    case b1=>simp only [go_sem];rfl
    simp (disch:=omega) only [zs,zk,q0,go_sem]
    repeat' first
     |((first|apply qd|apply qb);exact rvk;simp only [go_sem];first|exact VLe.refl _|apply qe|apply qa|apply qf|skip)
     |with_reducible first|apply And.intro|intro _
    all_goals try exact clz
   ·have q0:((e.sup.length:Int)=0)=False:=eq_false (by omega)
    rw [decide_eq_false g0]
    refine acO qov ?_
    simp (disch:=omega) only [qvN,List.replicate,unC,enC,apC,gp,go_sem]
    repeat' first
     |((first|apply qd|apply qb);exact rvk;simp only [go_sem];first|exact VLe.refl _|apply qe|apply qa|apply qf|skip)
     |with_reducible first|apply And.intro|intro _
    all_goals try exact clz
    refine cA (c56 h.length 1 _ ?b1) (by exact flk) ?_
    case b1=>simp only [go_sem];rfl
    simp (disch:=omega) only [zs,zk,q0,go_sem]
    repeat' first
     |((first|apply qd|apply qb);exact rvk;simp only [go_sem];first|exact VLe.refl _|apply qe|apply qa|apply qf|skip)
     |with_reducible first|apply And.intro|intro _
    all_goals try exact clz
  |true=>
   rw [if_neg (by simp)]
   refine acO qov ?_
   simp (disch:=omega) only [qvN,List.replicate,unC,enC,apC,gp,go_sem]
   repeat' first
    |((first|apply qd|apply qb);exact rvk;simp only [go_sem];first|exact VLe.refl _|apply qe|apply qa|apply qf|skip)
    |with_reducible first|apply And.intro|intro _
   all_goals try exact clz
   refine cA (c56 h.length 1 _ ?b1) (by exact flk) ?_
   case b1=>simp only [go_sem];rfl
   have zr: ∀g,valL g .len [zB p.rds]= .int .i64 p.rds.length:=fun _=>rfl
   have zq: ∀g,okL g .len [zB p.rds]=True:=fun _=>eq_true trivial
   simp (disch:=omega) only [zr,zq,go_sem]
   repeat' first
    |((first|refine cA (c50 _) ?_ ?_|refine cG (fun e=>c50 _) ?_ ?_|refine cU (fun _=>c50 _) ?_ ?_);(next=>exact flk);simp (disch:=omega) only [zr,zq,go_sem])
    |((first|apply qd|apply qb);exact rvk;simp only [go_sem];first|exact VLe.refl _|apply qe|apply qa|apply qf|skip)
    |with_reducible first|apply And.intro|intro _
   all_goals try exact clz
   obtain ⟨F,hF⟩: ∃F:Nat,e.frm=(F:Int):=⟨e.frm.toNat,by omega⟩
   obtain ⟨G,hG⟩: ∃G:Nat,e.to=(G:Int):=⟨e.to.toNat,by omega⟩
   rw [hF,hG]at h2
   rw [hG]at h3
   rw [hF,hG,Int.toNat_natCast,Int.toNat_natCast]
   refine qt (T:=fun s:Nat×AObj=>qU 60 [(1,.ip [.int .i64 e.layer,.int .i64 (F:Int),.int .i64 (G:Int),.bool true,strs e.sup,qaS e.vars]),(4,.ip [strs w]),(7,qo S),(8,.int .i64 E),(9,qo (qiC p (kR w F G) s.1)),(35,zB p.rds),(36,.int .i64 p.rds.length),(37,.int .i64 s.1)])
    (H:=fun s=>h++ [.mem 1 83 (unC p),.emp 2,s.2])
    (inv:=fun s=>s.1≤p.rds.length∧qI [s.2] 0=true) (m:=fun s=>p.rds.length-s.1) (0,.emp 0) ⟨Nat.zero_le _,rfl⟩ (Wk.trans (Wk.freeze [h.length+1] (by simp only [kg,go_sem])) ?w1) ?_
   case w1=>
    simp only [qcP,go_sem,unC]
    refine Wk.temps ?_
    (simp only [List.replicate,go_sem,qk,qi,qg,qj];try (repeat' first|(with_reducible apply And.intro)|(apply qe;omega)|(apply qa;rfl)|exact VLe.refl _))
    rw [if_pos (by simp),if_pos (by simp)]
    exact kj
   rintro ⟨i,O⟩ ⟨i1,i2⟩ K hK
   simp only at i1 i2 hK
   have i2': ∀m,qI (O::m) 0=true:=fun _=>i2
   by_cases hi:i<p.rds.length
   ·have k1:((i:Int)<p.rds.length)=True:=eq_true (by omega)
    have hW:qiC p (kR w F G) (i+1)=if (p.rds.getD i default).words=kR w F G then (p.rds.getD i default).src else qiC p (kR w F G) i:=rfl
    have zz:zB p.rds= .sl p.rds.length fun i=>rdC (p.rds.getD i default):=rfl
    have hwd:=hp.wd i
    obtain ⟨r,hr⟩: ∃r,r=p.rds.getD i default:=⟨_,rfl⟩
    have er:=hr.symm
    rw [er]at hW hwd
    have c53:=fun h=>qsC r.words (G-F) (fun j=>w.getD (F+j) []) h hwd (by omega)
    have hsd:=qpB (ws:=r.words) (t:=w) (f:=F) (g:=G) (by omega) (by omega)
    simp only [hsd]at c53
    have zs:strs w= .sl w.length fun j=> [.str (w.getD j [])]:=rfl
    by_cases gW:r.words=kR w F G
    ·have q1:(r.words=kR w F G)=True:=eq_true gW
     rw [if_pos gW]at hW
     simp (disch:=omega) only [List.replicate,rdC,k1,er,i2',zz,zs,go_sem]
     repeat' first
      |((first|refine cA (c53 _) ?_ ?_|refine cG (fun e=>c53 _) ?_ ?_|refine cU (fun _=>c53 _) ?_ ?_);(next=>exact flk);simp (disch:=omega) only [rdC,k1,er,i2',zz,zs,q1,go_sem])
      |((first|apply qd|apply qb);exact rvk;simp only [go_sem];first|exact VLe.refl _|apply qe|apply qa|apply qf|skip)
      |with_reducible first|apply And.intro|intro _
     all_goals try exact clz
     refine hK _ _ (i+1,.mem (qu (some O)+1) 89 (rdC r)) ⟨hi,rfl⟩ (by simp only;omega) ?_
     simp only [hW,rdC]
     refine Wk.temps ?_
     (simp only [List.replicate,zz,zs,rdC,go_sem,qk,qi,qg,qj];try (repeat' first|(with_reducible apply And.intro)|(apply qe;omega)|(apply qa;rfl)|exact VLe.refl _))
    ·have q1:(r.words=kR w F G)=False:=eq_false gW
     rw [if_neg gW]at hW
     simp (disch:=omega) only [List.replicate,rdC,k1,er,i2',zz,zs,go_sem]
     repeat' first
      |((first|refine cA (c53 _) ?_ ?_|refine cG (fun e=>c53 _) ?_ ?_|refine cU (fun _=>c53 _) ?_ ?_);(next=>exact flk);simp (disch:=omega) only [rdC,k1,er,i2',zz,zs,q1,go_sem])
      |((first|apply qd|apply qb);exact rvk;simp only [go_sem];first|exact VLe.refl _|apply qe|apply qa|apply qf|skip)
      |with_reducible first|apply And.intro|intro _
     all_goals try exact clz
     refine hK _ _ (i+1,.mem (qu (some O)+1) 89 (rdC r)) ⟨hi,rfl⟩ (by simp only;omega) ?_
     simp only [hW,rdC]
     refine Wk.temps ?_
     (simp only [List.replicate,zz,zs,rdC,go_sem,qk,qi,qg,qj];try (repeat' first|(with_reducible apply And.intro)|(apply qe;omega)|(apply qa;rfl)|exact VLe.refl _))
   have k1:((i:Int)<p.rds.length)=False:=eq_false (by omega)
   obtain rfl:i=p.rds.length:=by omega
   have hwn:=quv (w:=kR w F G) hp p.rds.length
   obtain ⟨W,hW⟩: ∃W,W=qiC p (kR w F G) p.rds.length:=⟨_,rfl⟩
   rw [←hW]at hwn ⊢
   have c40:=fun h=>qzP S W h (by omega) hwn
   by_cases gE:E=0
   ·have q1:(E=0)=True:=eq_true gE
    rw [decide_eq_true gE,Bool.true_and]
    simp (disch:=omega) only [List.replicate,k1,go_sem]
    repeat' first
     |((first|refine cA (c40 _) ?_ ?_|refine cG (fun e=>c40 _) ?_ ?_|refine cU (fun _=>c40 _) ?_ ?_);(next=>exact flk);simp (disch:=omega) only [k1,q1,go_sem])
     |((first|apply qd|apply qb);exact rvk;simp only [go_sem];first|exact VLe.refl _|apply qe|apply qa|apply qf|skip)
     |with_reducible first|apply And.intro|intro _
    all_goals try exact clz
   ·have q1:(E=0)=False:=eq_false gE
    rw [decide_eq_false gE,Bool.false_and]
    simp (disch:=omega) only [List.replicate,k1,q1,go_sem]
    repeat' first
     |(refine ql ( .bool false) ?_;simp (disch:=omega) only [k1,q1,go_sem])
     |((first|apply qd|apply qb);exact rvk;simp only [go_sem];first|exact VLe.refl _|apply qe|apply qa|apply qf|skip)
     |with_reducible first|apply And.intro|intro _
    all_goals try exact clz
theorem qB5 (a:Ap) (e:En) (w:List Str) (k1 w1 k2 w2 k3 w3 k4 w4:Nat) (h:List AObj) (hk1:qG k1 h=some (.mem w1 58 (enC e))) (hk2:qG k2 h=some (.mem w2 92 [.fn (.func 49) [] [.op k3 w3 0]])) (hk3:qG k3 h=some (.mem w3 47 (apC a))) (hk4:qG k4 h=some (.mem w4 22 [strs w]))
  (hz:Szs a.x.sig a.gs) (hu:quF a.l) (he:EnZ e) (hwl:w.length≤1000000000) (h1:0≤e.frm) (h2:e.frm≤e.to) (h3:e.to≤w.length):
  ACalls Tryz.prog 54 [qz a.l,.fn (.func 55) [] [.op k1 w1 0,.op k2 w2 0,.op k3 w3 0,.op k4 w4 0]] h (.bool (qZ (fun j=>okB a.x.sig a.gs w (a.l.getD j default) e) a.l.length)) h:=by
 have hc1:=qM hk1
 have hc2:=qM hk2
 have hc3:=qM hk3
 have hc4:=qM hk4
 have hn:=hu.n
 unfold qz
 refine qhg qxh ⟨rfl,rfl⟩ ⟨rfl,rfl⟩ (qaw qkK a.l.length (fun j=>unC (a.l.getD j default)) (fun j=> .agg (unC (a.l.getD j default))) _ [] [.op k1 w1 0,.op k2 w2 0,.op k3 w3 0,.op k4 w4 0] _ h (fun i _=>⟨rfl,by simp [jb,unC],rfl,rfl,rfl⟩) (fun i _=> ?_) (by omega))
 refine ACalls.borrow ?_ rfl
 have e':([AV.agg (unC (a.l.getD i default))]++ [AV.op k1 w1 0,.op k2 w2 0,.op k3 w3 0,.op k4 w4 0]).map (rei (fun _=>true) h 8)= [.agg (unC (a.l.getD i default)),.ip (enC e),.ip [.fn (.func 49) [] [.ip (apC a)]],.ip (apC a),.ip [strs w]]:=by
  simp only [List.cons_append,List.nil_append,List.map_cons,List.map_nil,rei_op,if_true,hc1,hc2,hc3,hc4,ipOf_some,List.drop_zero,rei_agg,rei_fn]
  rfl
 rw [List.nil_append,e']
 exact rd2 a _ e w _ hz ⟨hu.rd i,hu.sr i,hu.wd i⟩ he hwl h1 h2 h3
theorem qzN {a:Ap} (hE:enE a=0) {i:Nat} (hi:i<(enR a).length): ∃F G y k:Nat,((enR a).getD i default).frm=F∧((enR a).getD i default).to=G∧F≤G∧G≤a.b.length∧((enR a).getD i default).layer=y∧y<a.pos.length∧((enR a).getD i default).pos=a.pos.getD y false∧k<a.l.length∧okB a.x.sig a.gs (qaR a.b) (a.l.getD k default) ((enR a).getD i default)=true:=by
 obtain ⟨k,hk,y,hy,_,e⟩:=(qks hE).1 (qcs hi)
 obtain ⟨h,_,_,h4,_⟩:=qqB hE
 obtain ⟨f1,f2,_⟩:=qfn h hk
 rw [e]
 exact ⟨frK a k,toK a k,y,k,rfl,rfl,f1,f2,rfl,by omega,rfl,hk,qzO hE hk⟩
theorem qCv (a:Ap) (h:List AObj) (hp:qbh SG h) (hb:ApB a):ACalls Tryz.prog 9 [.agg (apC a)] h (.bool true) h:=by
 have c24:=fun l=>qzu (h++l) (hp.app l)
 have c23:=fun h=>grP a h hb
 obtain ⟨g,hg⟩: ∃g,g=qsV a:=⟨_,rfl⟩
 rw [←hg]at c23
 cases g with
 |true=>
  refine acO qAg ?_
  simp (disch:=omega) only [c9s,List.replicate,apC,go_sem]
  repeat' first
   |((first|refine cA (c23 _) ?_ ?_|refine cG (fun e=>c23 _) ?_ ?_|refine cA (c24 _) ?_ ?_|refine cG (fun e=>c24 _) ?_ ?_|refine cU (fun _=>c23 _) ?_ ?_|refine cU (fun _=>c24 _) ?_ ?_);(next=>exact flk);simp (disch:=omega) only [apC,go_sem])
   |((first|apply qd|apply qb);exact rvk;simp only [go_sem];first|exact VLe.refl _|apply qe|apply qa|apply qf|skip)
   |with_reducible first|apply And.intro|intro _
  all_goals try exact clz
 |false=>
  have hz:=qkS hg.symm
  have hsz:=qqY hz.g42
  have hn:=qsz hz
  have z14:=hz.b14
  have z20:=hz.p20
  have c48:=fun h=>qBd a.b h (by omega)
  have c25:=fun l=>qAs a (h++l) hz (hp.app l)
  have hlt:(qaR a.b).length=a.b.length:=by unfold qaR;rw [List.length_map]
  obtain ⟨E,hE⟩: ∃E,E=enE a:=⟨_,rfl⟩
  obtain ⟨L,hL⟩: ∃L,L=enR a:=⟨_,rfl⟩
  obtain ⟨W,hW⟩: ∃W,W=qaR a.b:=⟨_,rfl⟩
  have zl: ∀g,valL g .len [qaH L]= .int .i64 L.length:=fun _=>rfl
  have zm: ∀g,okL g .len [qaH L]=True:=fun _=>eq_true trivial
  have zw: ∀g,valL g .len [strs W]= .int .i64 W.length:=fun _=>rfl
  have zx: ∀g,okL g .len [strs W]=True:=fun _=>eq_true trivial
  have zb: ∀g,valL g .len [zh a.pos]= .int .i64 a.pos.length:=fun _=>rfl
  have zc: ∀g,okL g .len [zh a.pos]=True:=fun _=>eq_true trivial
  rw [←hE,←hL]at c25
  rw [←hW]at hlt
  simp only [←hW]at c48
  by_cases gE:E=0
  case neg=>
   have kE:(E=0)=False:=eq_false gE
   refine acO qAg ?_
   simp (disch:=omega) only [c9s,List.replicate,apC,go_sem]
   repeat' first
    |((first|refine cA (c23 _) ?_ ?_|refine cG (fun e=>c23 _) ?_ ?_|refine cA (c25 _) ?_ ?_|refine cG (fun e=>c25 _) ?_ ?_|refine cA (c24 _) ?_ ?_|refine cG (fun e=>c24 _) ?_ ?_|refine cU (fun _=>c23 _) ?_ ?_|refine cU (fun _=>c25 _) ?_ ?_|refine cU (fun _=>c24 _) ?_ ?_);(next=>exact flk);simp (disch:=omega) only [apC,kE,go_sem])
    |((first|apply qd|apply qb);exact rvk;simp only [go_sem];first|exact VLe.refl _|apply qe|apply qa|apply qf|skip)
    |with_reducible first|apply And.intro|intro _
   all_goals try exact clz
  have kE:(E=0)=True:=eq_true gE
  have hE0:enE a=0:=hE▸gE
  have hfx:=fun i hi=>qzN hE0 (i:=i) hi
  have hsv:=fun i=>(qwc hz i)
  rw [←hL]at hn
  simp only [←hL,←hW]at hfx hsv
  refine acO qAg ?_
  simp (disch:=omega) only [c9s,List.replicate,apC,go_sem]
  repeat' first
   |((first|refine cA (c23 _) ?_ ?_|refine cG (fun e=>c23 _) ?_ ?_|refine cA (c25 _) ?_ ?_|refine cG (fun e=>c25 _) ?_ ?_|refine cA (c48 _) ?_ ?_|refine cG (fun e=>c48 _) ?_ ?_|refine cU (fun _=>c23 _) ?_ ?_|refine cU (fun _=>c25 _) ?_ ?_|refine cU (fun _=>c48 _) ?_ ?_);(next=>exact flk);simp (disch:=omega) only [apC,kE,zl,zm,go_sem])
   |((first|apply qd|apply qb);exact rvk;simp only [go_sem];first|exact VLe.refl _|apply qe|apply qa|apply qf|skip)
   |with_reducible first|apply And.intro|intro _
  all_goals try exact clz
  refine qt (T:=fun s:Nat×Nat×Nat×AObj×AObj=>qU 80 [(1,.op h.length 1 0),(3,qaH L),(5,.op (h.length+1) 1 0),(24,qaH L),(25,.int .i64 L.length),(26,.int .i64 s.1)])
   (H:=fun s=>h++ [.mem 1 47 (apC a),.mem 1 22 [strs W],s.2.2.2.1,s.2.2.2.2])
   (inv:=fun s=>s.1≤L.length∧qI [s.2.2.2.1] 0=true∧qI [s.2.2.2.2] 0=true) (m:=fun s=>L.length-s.1) (0,0,0,.emp 0,.emp 0) ⟨Nat.zero_le _,rfl,rfl⟩ (Wk.temps ?_) ?_
  ·(simp only [List.replicate,apC,go_sem,qk,qi,qg,qj];try (repeat' first|(with_reducible apply And.intro)|(apply qe;omega)|(apply qa;rfl)|exact VLe.refl _))
  rintro ⟨i,_,_,O1,O2⟩ ⟨i1,i2,i3⟩ K hK
  simp only at i1 i2 i3 hK
  have i2': ∀m,qI (O1::m) 0=true:=fun _=>i2
  have i3': ∀m,qI (O2::m) 0=true:=fun _=>i3
  by_cases hi:i<L.length
  ·have k1:((i:Int)<L.length)=True:=eq_true (by omega)
   obtain ⟨F,G,y,k,f1,f2,f3,f4,f5,f6,f7,f8,f9⟩:=hfx i hi
   have he:=hsv i
   have zz:qaH L= .sl L.length fun i=>enC (L.getD i default):=rfl
   obtain ⟨e,hee⟩: ∃e,e=L.getD i default:=⟨_,rfl⟩
   have ee:=hee.symm
   rw [ee]at f1 f2 f5 f7 f9 he
   have hany:qZ (fun j=>okB a.x.sig a.gs W (a.l.getD j default) e) a.l.length=true:=qF.2 ⟨k,f8,f9⟩
   have c54:=fun k1 w1 k2 w2 k3 w3 k4 w4 h hk1 hk2 hk3 hk4=>qB5 a e W k1 w1 k2 w2 k3 w3 k4 w4 h hk1 hk2 hk3 hk4 hsz hz.un he (by omega) (by omega) (by omega) (by omega)
   simp only [hany]at c54
   have eC:enC e= [.int .i64 (y:Int),.int .i64 (F:Int),.int .i64 (G:Int),.bool (a.pos.getD y false),strs e.sup,qaS e.vars]:=by unfold enC;rw [f1,f2,f5,f7]
   rw [eC]at c54
   have q1:((F:Int)<0)=False:=eq_false (by omega)
   have q2:((W.length:Int)<G)=False:=eq_false (by omega)
   have q3:((G:Int)<F)=False:=eq_false (by omega)
   have q4:((y:Int)<0)=False:=eq_false (by omega)
   have q5:((a.pos.length:Int)≤y)=False:=eq_false (by omega)
   have q6:((y:Int)<a.pos.length)=True:=eq_true (by omega)
   have q7:(y<a.pos.length)=True:=eq_true (by omega)
   simp (disch:=omega) only [List.replicate,apC,k1,ee,eC,i2',i3',zz,zw,zx,q1,q2,q3,go_sem]
   repeat' first
    |((first|apply qd|apply qb);exact rvk;simp only [go_sem];first|exact VLe.refl _|apply qe|apply qa|apply qf|skip)
    |with_reducible first|apply And.intro|intro _
   all_goals try exact clz
   refine cA (c54 (h.length+2) (qu (some O1)+1) (h.length+3) (qu (some O2)+1) h.length 1 (h.length+1) 1 _ ?b1 ?b2 ?b3 ?b4) (by exact flk) ?_
   case b1=>simp only [go_sem]
   case b2=>simp only [go_sem]
   case b3=>simp only [go_sem];rfl
   case b4=>simp only [go_sem]
   have zbv:zh a.pos= .sl a.pos.length fun i=> [.bool (a.pos.getD i false)]:=rfl
   simp (disch:=omega) only [zb,zc,q4,q5,q6,q7,zbv,go_sem]
   repeat' first
    |((first|apply qd|apply qb);exact rvk;simp only [go_sem];first|exact VLe.refl _|apply qe|apply qa|apply qf|skip)
    |with_reducible first|apply And.intro|intro _
   all_goals try exact clz
   refine hK _ _ (i+1,0,0,.mem (qu (some O1)+1) 58 [.int .i64 (y:Int),.int .i64 (F:Int),.int .i64 (G:Int),.bool (a.pos.getD y false),strs e.sup,qaS e.vars],.mem (qu (some O2)+1) 92 [.fn (.func 49) [] [.op h.length 1 0]]) ⟨hi,rfl,rfl⟩ (by simp only;omega) ?_
   simp only [apC]
   refine Wk.temps ?_
   (simp only [List.replicate,zz,go_sem,qk,qi,qg,qj];try (repeat' first|(with_reducible apply And.intro)|(apply qe;omega)|(apply qa;rfl)|exact VLe.refl _))
  have k1:((i:Int)<L.length)=False:=eq_false (by omega)
  simp (disch:=omega) only [List.replicate,k1,go_sem]
  repeat' first
   |((first|refine cA (c24 _) ?_ ?_|refine cG (fun e=>c24 _) ?_ ?_|refine cU (fun _=>c24 _) ?_ ?_);(next=>exact flk);simp (disch:=omega) only [k1,go_sem])
   |((first|apply qd|apply qb);exact rvk;simp only [go_sem];first|exact VLe.refl _|apply qe|apply qa|apply qf|skip)
   |with_reducible first|apply And.intro|intro _
  all_goals try exact clz
end RC
end
section
open Go Go.Proofs AF HY Go.ChangeShapes Go.RowKit
namespace LN
theorem qAh : Tryz.prog.globalNamed "internal/strconv.uint64pow10" = some 1 := by kernel_rfl
theorem qAj : Tryz.prog.globalNamed "strconv.ErrSyntax" = some 6 := by kernel_rfl
theorem qAi : Tryz.prog.globalNamed "strconv.ErrRange" = some 7 := by kernel_rfl
theorem qpg {w w':World} (h:qqq w) (e:w'.heap[1]? =w.heap[1]?):qqq w':=by
 unfold qqq Lib.TabIs at*
 rw [qdS qAh e]
 exact h
theorem qgP : "*" ++ "errors.errorString" = "*errors.errorString" := by decide
theorem qrf (u : TypeId) (h : Tryz.prog.typeName? 3 u = some "*errors.errorString") : u = 323 :=
 typeName_ptr_named (nm := "errors.errorString") (by rw [qgP]; kernel_rfl) (by kernel_rfl) (by decide) u (by rw [qgP]; exact h)
def qdL:List Nat:= [1,6,7]
def qzl (w:World):Prop:=qqq w∧quP w
theorem qyg {W:World} (h:laidMet Tryz.prog YtgoandblgcjleaaGreatDoor.Rows.apparatusSpansRow.laid W):qqq W∧quP W:=by
 have h2:=laidMet.tail (laidMet.tail h)
 have h3:=laidMet.tail (laidMet.tail h2)
 have h4:=laidMet.tail h3
 obtain ⟨a,s,e1,_⟩:=laid_sentinel (g:=7) (ti:=192) (tp:=323) (te:=325) (ts:=9) h3 qAi (by kernel_rfl) Tryz.underlying192 qrf Tryz.underlying323 Tryz.underlying325 rfl rfl Tryz.underlying9 (by kernel_rfl) (by kernel_rfl)
 obtain ⟨b,t,e2,_⟩:=laid_sentinel (g:=6) (ti:=192) (tp:=323) (te:=325) (ts:=9) h4 qAj (by kernel_rfl) Tryz.underlying192 qrf Tryz.underlying323 Tryz.underlying325 rfl rfl Tryz.underlying9 (by kernel_rfl) (by kernel_rfl)
 exact ⟨Lib.tabIs_of_head (t:=288) (e:=164) (n:=20) qAh (by kernel_rfl) Tryz.underlying288 Tryz.underlying164 (by kernel_rfl) (by kernel_rfl) h2,⟨_,_,e2⟩,_,_,e1⟩
theorem qpG {W:World} (h:laidMet Tryz.prog YtgoandblgcjleaaGreatDoor.Rows.apparatusSpansRow.laid W): ∀b,b∈qdL→ ∃arr T fz,W.heap[b]? =some (.cells arr T fz):=by
 intro b hb
 obtain ⟨h1,⟨_,_,h2⟩,_,_,h3⟩:=qyg h
 have e:b=1∨b=6∨b=7:=by simpa [qdL] using hb
 rcases e with rfl|rfl|rfl
 ·exact qcL qAh h1
 ·exact qcL qAj h2
 ·exact qcL qAi h3
theorem qtS {W:World} (h:laidMet Tryz.prog YtgoandblgcjleaaGreatDoor.Rows.apparatusSpansRow.laid W): ∀w':World,(∀b,b∈qdL→w'.heap[b]? =W.heap[b]?)→qzl w':=by
 intro w' hs
 obtain ⟨h1,⟨t1,p1,h2⟩,t2,p2,h3⟩:=qyg h
 refine ⟨qpg h1 (hs 1 (by simp [qdL])),⟨t1,p1,?_⟩,t2,p2,?_⟩
 ·rw [qdS qAj (hs 6 (by simp [qdL]))];exact h2
 ·rw [qdS qAi (hs 7 (by simp [qdL]))];exact h3
theorem qtR:qbh RC.SG [.pin qdL qzl]:=⟨0,_,_,rfl,fun _ h=>h⟩
end LN
end
