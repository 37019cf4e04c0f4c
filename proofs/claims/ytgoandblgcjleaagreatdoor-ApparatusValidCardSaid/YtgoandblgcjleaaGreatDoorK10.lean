import Derived.Test.YtgoandblgcjleaaGreatDoorK9
import Derived.Test.YtgoandblgcjleaaGreatDoorK5
import Derived.Test.YtgoandblgcjleaaGreatDoorK3
import Derived.Test.YtgoandblgcjleaaGreatDoorK8
import Derived.Test.YtgoandblgcjleaaGreatDoorProg
set_option linter.all false
set_option linter.unusedSimpArgs false
set_option linter.unusedVariables false
set_option linter.unusedSectionVars false
set_option maxHeartbeats 64000000
set_option maxRecDepth 100000
section
open Go Go.Proofs AF HY LN
namespace RC
theorem qgx {s:Str} {v:Int} (h:Lib.atoiAll s= .ok v): -9223372036854775808≤v∧v≤9223372036854775807:=by
 unfold Lib.atoiAll at h
 split at h
 ·cases h
 ·simp only at h
  split at h
  ·cases h
  ·cases h
  ·split at h
   ·cases h
   ·split at h
    ·cases h
    ·rename_i h1 h2
     cases h
     split
     ·rename_i h3;have:=mt (And.intro h3) h2;omega
     ·rename_i h3;have:=mt (And.intro h3) h1;omega
theorem qdN {k:Nat} (h:k≤64):(Lib.itoa (k:Int)).length≤9:=by
 rw [Lib.itoa_nonneg]
 by_cases g:k<10
 ·rw [Lib.decDigits,dif_pos g];simp
 ·rw [Lib.decDigits,dif_neg g,Lib.decDigits,dif_pos (show k/10<10 by omega)];simp
def qsP (s:Str):Bool:=match Lib.atoiAll s with
 | .ok v=>decide (1≤v)&&(decide (s.length≤9)&&decide (Lib.itoa v=s))
 |_=>false
def qvo (s:Str):Int:=match Lib.atoiAll s with
 | .ok v=>v
 |_=>qrO s
def SG (w:World):Prop:=qqD w∧qvx w
theorem SG.pow {h:List AObj} (hp:kY SG h):kY qqD h:=hp.mono fun _ h=>h.1
theorem SG.err {h:List AObj} (hp:kY SG h):kY qvx h:=hp.mono fun _ h=>h.2
theorem qCL (s:Str) (h:List AObj) (hs:s.length≤1000000000) (hp:kY SG h):ACalls Tryz.prog 287 [.str s] h (.tup [.int .i64 (qvo s),.bool (qsP s)]) h:=by
 have c180:=t50 s h (SG.err hp) (by omega)
 unfold qvo qsP
 unfold qnQ at c180
 cases ha:Lib.atoiAll s
 ·rename_i v
  rw [ha]at c180
  simp only at c180
  obtain ⟨r1,r2⟩:=qgx ha
  have c181:=t48 v h (SG.pow hp) r1 r2
  obtain ⟨t,ht⟩: ∃t,t=Lib.itoa v:=⟨_,rfl⟩
  rw [←ht]at c181
  simp only [←ht]
  by_cases g1:1≤v
  ·have k1:(1≤v)=True:=eq_true g1
   rw [decide_eq_true g1]
   by_cases g2:s.length≤9
   ·have k2:((s.length:Int)≤9)=True:=eq_true (by omega)
    rw [decide_eq_true g2]
    refine acO qeC ?_
    simp (disch:=omega) only [qhy,go_sem]
    repeat' first
     |((first|refine cA (c180) ?_ ?_|refine cG (fun e=>c180) ?_ ?_|refine cA (c181) ?_ ?_|refine cG (fun e=>c181) ?_ ?_);exact flk;simp (disch:=omega) only [k1,k2,go_sem])
     |((first|apply qd|apply qb);exact rvk;simp only [go_sem];first|exact ql|apply qe|apply qa|apply qf|skip)
     |with_reducible first|intro _|apply aiA
    all_goals try exact clz
   ·have k2:((s.length:Int)≤9)=False:=eq_false (by omega)
    rw [decide_eq_false g2]
    refine acO qeC ?_
    simp (disch:=omega) only [qhy,go_sem]
    repeat' first
     |(refine qn ( .str []) ?_;simp (disch:=omega) only [k1,k2,go_sem])
     |((first|refine cA (c180) ?_ ?_|refine cG (fun e=>c180) ?_ ?_);exact flk;simp (disch:=omega) only [k1,k2,go_sem])
     |((first|apply qd|apply qb);exact rvk;simp only [go_sem];first|exact ql|apply qe|apply qa|apply qf|skip)
     |with_reducible first|intro _|apply aiA
    all_goals try exact clz
  ·have k1:(1≤v)=False:=eq_false g1
   rw [decide_eq_false g1]
   refine acO qeC ?_
   simp (disch:=omega) only [qhy,go_sem]
   repeat' first
    |(refine qn ( .str []) ?_;simp (disch:=omega) only [k1,go_sem])
    |((first|refine cA (c180) ?_ ?_|refine cG (fun e=>c180) ?_ ?_);exact flk;simp (disch:=omega) only [k1,go_sem])
    |((first|apply qd|apply qb);exact rvk;simp only [go_sem];first|exact ql|apply qe|apply qa|apply qf|skip)
    |with_reducible first|intro _|apply aiA
   all_goals try exact clz
 ·rw [ha]at c180
  simp only at c180
  refine acO qeC ?_
  simp (disch:=omega) only [qhy,go_sem]
  repeat' first
   |(refine qn ( .str []) ?_;simp (disch:=omega) only [go_sem])
   |((first|refine cA (c180) ?_ ?_|refine cG (fun e=>c180) ?_ ?_);exact flk;simp (disch:=omega) only [go_sem])
   |((first|apply qd|apply qb);exact rvk;simp only [go_sem];first|exact ql|apply qe|apply qa|apply qf|skip)
   |with_reducible first|intro _|apply aiA
  all_goals try exact clz
 ·rw [ha]at c180
  simp only at c180
  refine acO qeC ?_
  simp (disch:=omega) only [qhy,go_sem]
  repeat' first
   |(refine qn ( .str []) ?_;simp (disch:=omega) only [go_sem])
   |((first|refine cA (c180) ?_ ?_|refine cG (fun e=>c180) ?_ ?_);exact flk;simp (disch:=omega) only [go_sem])
   |((first|apply qd|apply qb);exact rvk;simp only [go_sem];first|exact ql|apply qe|apply qa|apply qf|skip)
   |with_reducible first|intro _|apply aiA
  all_goals try exact clz
def pre (s:Str):Bool:=decide (1≤s.length)&&decide (s.take 1= [91])
theorem qrg (s:Str) (h:List AObj) (hs:s.length≤1000000000):ACalls Tryz.prog 314 [.str s,.str [91]] h (.bool (pre s)) h:=by
 unfold pre
 by_cases g:1≤s.length
 ·have k1:((1:Int)≤s.length)=True:=eq_true (by omega)
  rw [decide_eq_true g]
  refine acO qra ?_
  simp (disch:=omega) only [qsg,qca,k1,go_sem]
  repeat' first
   |((first|apply qd|apply qb);exact rvk;simp only [go_sem];first|exact ql|apply qe|apply qa|apply qf|skip)
   |with_reducible first|intro _|apply aiA
  all_goals try exact clz
 ·have k1:((1:Int)≤s.length)=False:=eq_false (by omega)
  rw [decide_eq_false g]
  refine acO qra ?_
  simp (disch:=omega) only [qsg,qca,k1,go_sem]
  repeat' first
   |((first|apply qd|apply qb);exact rvk;simp only [go_sem];first|exact ql|apply qe|apply qa|apply qf|skip)
   |with_reducible first|intro _|apply aiA
  all_goals try exact clz
theorem qsH (s:Str) (h:List AObj) (hs:s.length≤1000000000):ACalls Tryz.prog 306 [.str s,.str [91]] h (.tup [.str (if pre s=true then s.drop 1 else s),.bool (pre s)]) h:=by
 have c1:=fun h=>qrg s h hs
 cases g:pre s with
 |true=>
  rw [g]at c1
  have g1:1≤s.length:=by unfold pre at g;simp at g;omega
  have k4:((1:Int)≤s.length)=True:=eq_true (by omega)
  have k5:List.take (s.length-1) (List.drop 1 s)=s.drop 1:=List.take_of_length_le (by simp)
  refine acO qq8 ?_
  simp (disch:=omega) only [qse,qca,k4,go_sem]
  repeat' first
   |((first|refine cA (c1 _) ?_ ?_|refine cG (fun e=>c1 _) ?_ ?_|refine cU (fun _=>c1 _) ?_ ?_);exact flk;simp (disch:=omega) only [qca,k4,go_sem])
   |((first|apply qd|apply qb);exact rvk;simp only [go_sem];first|exact ql|apply qe|apply qa|apply qf|skip)
   |with_reducible first|intro _|apply aiA
  all_goals try exact clz
  simp only [Int.toNat_one,k5,if_true]
  exact ql
 |false=>
  rw [g]at c1
  refine acO qq8 ?_
  simp (disch:=omega) only [qse,go_sem]
  repeat' first
   |((first|refine cA (c1 _) ?_ ?_|refine cG (fun e=>c1 _) ?_ ?_|refine cU (fun _=>c1 _) ?_ ?_);exact flk;simp (disch:=omega) only [go_sem])
   |((first|apply qd|apply qb);exact rvk;simp only [go_sem];first|exact ql|apply qe|apply qa|apply qf|skip)
   |with_reducible first|intro _|apply aiA
  all_goals try exact clz
theorem qwU (s:Str) (h:List AObj) (hs:s.length≤1000000000):ACalls Tryz.prog 286 [.str s,.str [91]] h (.tup [.str (if pre s=true then s.drop 1 else s),.bool (pre s)]) h:=by
 have c1:=fun h=>qsH s h hs
 refine acO qx9 ?_
 simp (disch:=omega) only [qwu,go_sem]
 repeat' first
  |((first|refine cA (c1 _) ?_ ?_|refine cG (fun e=>c1 _) ?_ ?_|refine cU (fun _=>c1 _) ?_ ?_);exact flk;simp (disch:=omega) only [go_sem])
  |((first|apply qd|apply qb);exact rvk;simp only [go_sem];first|exact ql|apply qe|apply qa|apply qf|skip)
  |with_reducible first|intro _|apply aiA
 all_goals try exact clz
def qaV (s:Str):Bool:=decide (1≤s.length)&&decide (s.drop (s.length-1)= [93])
theorem qtl (s:Str) (h:List AObj) (hs:s.length≤1000000000):ACalls Tryz.prog 304 [.str s,.str [93]] h (.bool (qaV s)) h:=by
 unfold qaV
 by_cases g:1≤s.length
 ·have k1:((1:Int)≤s.length)=True:=eq_true (by omega)
  have k2:((s.length:Int)-1).toNat=s.length-1:=by omega
  have k3:(0≤(s.length:Int)-1)=True:=eq_true (by omega)
  have k4:((s.length:Int)-1≤s.length)=True:=eq_true (by omega)
  have k5:List.take (s.length-(s.length-1)) (List.drop (s.length-1) s)=s.drop (s.length-1):=List.take_of_length_le (by simp)
  rw [decide_eq_true g]
  refine acO qgR ?_
  simp (disch:=omega) only [qkd,qca,k1,k2,k3,k4,k5,go_sem]
  repeat' first
   |((first|apply qd|apply qb);exact rvk;simp only [go_sem];first|exact ql|apply qe|apply qa|apply qf|skip)
   |with_reducible first|intro _|apply aiA
  all_goals try exact clz
 ·have k1:((1:Int)≤s.length)=False:=eq_false (by omega)
  rw [decide_eq_false g]
  refine acO qgR ?_
  simp (disch:=omega) only [qkd,qca,k1,go_sem]
  repeat' first
   |((first|apply qd|apply qb);exact rvk;simp only [go_sem];first|exact ql|apply qe|apply qa|apply qf|skip)
   |with_reducible first|intro _|apply aiA
  all_goals try exact clz
theorem qok (s:Str) (h:List AObj) (hs:s.length≤1000000000):ACalls Tryz.prog 284 [.str s,.str [93]] h (.tup [.str (if qaV s=true then s.take (s.length-1) else s),.bool (qaV s)]) h:=by
 have c1:=fun h=>qtl s h hs
 cases g:qaV s with
 |true=>
  rw [g]at c1
  have g1:1≤s.length:=by unfold qaV at g;simp at g;omega
  have k2:((s.length:Int)-1).toNat=s.length-1:=by omega
  have k3:(0≤(s.length:Int)-1)=True:=eq_true (by omega)
  have k4:((s.length:Int)-1≤s.length)=True:=eq_true (by omega)
  refine acO qgQ ?_
  simp (disch:=omega) only [qkc,qca,k2,k3,k4,go_sem]
  repeat' first
   |((first|refine cA (c1 _) ?_ ?_|refine cG (fun e=>c1 _) ?_ ?_|refine cU (fun _=>c1 _) ?_ ?_);exact flk;simp (disch:=omega) only [qca,k2,k3,k4,Nat.sub_zero,go_sem])
   |((first|apply qd|apply qb);exact rvk;simp only [go_sem];first|exact ql|apply qe|apply qa|apply qf|skip)
   |with_reducible first|intro _|apply aiA
  all_goals try exact clz
 |false=>
  rw [g]at c1
  refine acO qgQ ?_
  simp (disch:=omega) only [qkc,go_sem]
  repeat' first
   |((first|refine cA (c1 _) ?_ ?_|refine cG (fun e=>c1 _) ?_ ?_|refine cU (fun _=>c1 _) ?_ ?_);exact flk;simp (disch:=omega) only [go_sem])
   |((first|apply qd|apply qb);exact rvk;simp only [go_sem];first|exact ql|apply qe|apply qa|apply qf|skip)
   |with_reducible first|intro _|apply aiA
  all_goals try exact clz
theorem qsJ (s:Str) (h:List AObj) (hs:s.length≤1000000000):ACalls Tryz.prog 241 [.str s,.str [93]] h (.tup [.str (if qaV s=true then s.take (s.length-1) else s),.bool (qaV s)]) h:=by
 have c1:=fun h=>qok s h hs
 refine acO qq1 ?_
 simp (disch:=omega) only [qr7,go_sem]
 repeat' first
  |((first|refine cA (c1 _) ?_ ?_|refine cG (fun e=>c1 _) ?_ ?_|refine cU (fun _=>c1 _) ?_ ?_);exact flk;simp (disch:=omega) only [go_sem])
  |((first|apply qd|apply qb);exact rvk;simp only [go_sem];first|exact ql|apply qe|apply qa|apply qf|skip)
  |with_reducible first|intro _|apply aiA
 all_goals try exact clz
def qbv (s:Str):Bool:=(List.range 64).any fun k=>decide (s=91::(Lib.itoa ((k+1:Nat):Int)++ [93]))
def qda (s:Str):Bool:=qab s||(if s.length=1 then decide (zG (ch s 0)=5)||decide (zG (ch s 0)=4) else qbv s)
def qnC (s:Str):Str:=if qaV (if pre s=true then s.drop 1 else s)=true then (if pre s=true then s.drop 1 else s).take ((if pre s=true then s.drop 1 else s).length-1) else if pre s=true then s.drop 1 else s
def qyv (s:Str):Bool:=pre s&&qaV (if pre s=true then s.drop 1 else s)&&qsP (qnC s)&&decide (qvo (qnC s)≤64)
theorem qyx (s:Str):qyv s=qbv s:=by
 cases g:qbv s with
 |true=>
  unfold qbv at g
  rw [List.any_eq_true]at g
  obtain ⟨k,hk,e⟩:=g
  have hk':k<64:=by simpa using hk
  have e:=of_decide_eq_true e
  obtain ⟨t,ht⟩: ∃t,t=Lib.itoa ((k+1:Nat):Int):=⟨_,rfl⟩
  rw [←ht]at e
  have ha:Lib.atoiAll t= .ok ((k+1:Nat):Int):=by rw [ht];exact qei (by omega) (by omega)
  have hl:t.length≤9:=by
   rw [ht];exact qdN (by omega)
  have p1:pre s=true:=by rw [e];simp [pre]
  have p2:s.drop 1=t++ [93]:=by rw [e];rfl
  have p3:qaV (t++ [93])=true:=by unfold qaV;simp
  have p4:qnC s=t:=by unfold qnC;rw [if_pos p1,p2,if_pos p3];simp
  have p5:qsP t=true:=by unfold qsP;rw [ha];simp only;rw [←ht];simp;omega
  have p6:qvo t=((k+1:Nat):Int):=by unfold qvo;rw [ha]
  unfold qyv
  rw [p4,p1,if_pos rfl,p2,p3,p5,p6]
  simp;omega
 |false=>
  cases q:qyv s with
  |false=>rfl
  |true=>
   exfalso
   unfold qyv at q
   simp only [Bool.and_eq_true,decide_eq_true_eq]at q
   obtain ⟨⟨⟨q1,q2⟩,q3⟩,q4⟩:=q
   rw [if_pos q1]at q2
   obtain ⟨m,hm⟩: ∃m,m=qnC s:=⟨_,rfl⟩
   have hm':=hm
   unfold qnC at hm'
   rw [if_pos q1,if_pos q2]at hm'
   rw [←hm]at q3 q4
   unfold qsP at q3
   unfold qvo at q4
   cases ha:Lib.atoiAll m
   ·rename_i v
    rw [ha]at q3 q4
    simp only [Bool.and_eq_true,decide_eq_true_eq]at q3 q4
    obtain ⟨r1,r2,r3⟩:=q3
    unfold pre at q1
    unfold qaV at q2
    simp only [Bool.and_eq_true,decide_eq_true_eq]at q1 q2
    have e1:s=91::s.drop 1:=by
     have:=List.take_append_drop 1 s
     rw [q1.2]at this
     exact this.symm
    have e2:s.drop 1=m++ [93]:=by
     have:=List.take_append_drop ((s.drop 1).length-1) (s.drop 1)
     rw [q2.2,←hm']at this
     exact this.symm
    have:qbv s=true:=by
     unfold qbv
     rw [List.any_eq_true]
     refine ⟨v.toNat-1,by simp;omega,decide_eq_true ?_⟩
     rw [show ((v.toNat-1+1:Nat):Int)=v by omega,r3,←e2,←e1]
    rw [g]at this
    cases this
   ·rw [ha]at q3;cases q3
   ·rw [ha]at q3;cases q3
theorem qBI (s:Str) (h:List AObj) (hs:s.length≤1000000000) (hp:kY SG h):ACalls Tryz.prog 244 [.str s] h (.bool (qda s)) h:=by
 have c167:=fun h=>t88 s h hs
 unfold qda
 cases g:qab s with
 |true=>
  rw [g]at c167
  refine acO qk9 ?_
  simp (disch:=omega) only [qn0,go_sem]
  repeat' first
   |((first|refine cA (c167 _) ?_ ?_|refine cG (fun e=>c167 _) ?_ ?_|refine cU (fun _=>c167 _) ?_ ?_);exact flk;simp (disch:=omega) only [go_sem])
   |((first|apply qd|apply qb);exact rvk;simp only [go_sem];first|exact ql|apply qe|apply qa|apply qf|skip)
   |with_reducible first|intro _|apply aiA
  all_goals try exact clz
 |false=>
 rw [g]at c167
 rw [Bool.false_or]
 by_cases g1:s.length=1
 ·have k1:((s.length:Int)=1)=True:=eq_true (by omega)
  have k2:((0:Int)<s.length)=True:=eq_true (by omega)
  rw [if_pos g1]
  have e:(s[0]?).getD 0=ch s 0:=by simp [ch,gdqA]
  have c153:=fun h=>jD (ch s 0) h
  obtain ⟨k,hk⟩: ∃k,k=zG (ch s 0):=⟨_,rfl⟩
  rw [←hk]at c153 ⊢
  refine acO qk9 ?_
  simp (disch:=omega) only [qn0,k1,k2,e,Int.toNat_zero,go_sem]
  repeat' first
   |((first|refine cA (c167 _) ?_ ?_|refine cG (fun e=>c167 _) ?_ ?_|refine cA (c153 _) ?_ ?_|refine cG (fun e=>c153 _) ?_ ?_|refine cU (fun _=>c167 _) ?_ ?_|refine cU (fun _=>c153 _) ?_ ?_);exact flk;simp (disch:=omega) only [k1,k2,e,Int.toNat_zero,go_sem])
   |((first|apply qd|apply qb);exact rvk;simp only [go_sem];first|exact ql|apply qe|apply qa|apply qf|skip)
   |with_reducible first|intro _|apply aiA
  all_goals try exact clz
 ·have k1:((s.length:Int)=1)=False:=eq_false (by omega)
  rw [if_neg g1,←qyx]
  have c168:=fun h=>qwU s h hs
  unfold qyv
  have hm:qnC s=if qaV (if pre s=true then s.drop 1 else s)=true then (if pre s=true then s.drop 1 else s).take ((if pre s=true then s.drop 1 else s).length-1) else if pre s=true then s.drop 1 else s:=rfl
  obtain ⟨u,hu⟩: ∃u,u=if pre s=true then s.drop 1 else s:=⟨_,rfl⟩
  rw [←hu]at c168 hm ⊢
  have hul:u.length≤s.length:=by rw [hu];split<;>simp
  have c126:=fun h=>qsJ u h (by omega)
  rw [←hm]at c126
  have hml:(qnC s).length≤u.length:=by rw [hm];split<;>simp
  have c169:=qCL (qnC s) h (by omega) hp
  obtain ⟨m,hmm⟩: ∃m,m=qnC s:=⟨_,rfl⟩
  rw [←hmm]at c126 c169 ⊢
  obtain ⟨a,ha⟩: ∃a,a=pre s:=⟨_,rfl⟩
  obtain ⟨b,hb⟩: ∃b,b=qaV u:=⟨_,rfl⟩
  obtain ⟨c,hc⟩: ∃c,c=qsP m:=⟨_,rfl⟩
  rw [←ha]at c168 ⊢
  rw [←hb]at c126 ⊢
  rw [←hc]at c169 ⊢
  cases a<;>cases b<;>cases c
  all_goals
   refine acO qk9 ?_
   simp (disch:=omega) only [qn0,k1,go_sem]
   repeat' first
    |((first|refine cA (c167 _) ?_ ?_|refine cG (fun e=>c167 _) ?_ ?_|refine cA (c168 _) ?_ ?_|refine cG (fun e=>c168 _) ?_ ?_|refine cA (c126 _) ?_ ?_|refine cG (fun e=>c126 _) ?_ ?_|refine cA (c169) ?_ ?_|refine cG (fun e=>c169) ?_ ?_|refine cU (fun _=>c167 _) ?_ ?_|refine cU (fun _=>c168 _) ?_ ?_|refine cU (fun _=>c126 _) ?_ ?_);exact flk;simp (disch:=omega) only [k1,go_sem])
    |((first|apply qd|apply qb);exact rvk;simp only [go_sem];first|exact ql|apply qe|apply qa|apply qf|skip)
    |with_reducible first|intro _|apply aiA
   all_goals try exact clz
def wE (s:Str):Int:=if qda s=true then 0 else 11
theorem qC7 (s:Str) (h:List AObj) (hs:s.length≤1000000000) (hp:kY SG h):ACalls Tryz.prog 194 [.agg [.str s,.str [],.int .i64 0]] h (.int .i64 (wE s)) h:=by
 have c160:=fun l=>qBI s (h++l) hs (hp.app l)
 unfold wE
 cases g:qda s with
 |true=>
  rw [g]at c160
  refine acO qqY ?_
  simp (disch:=omega) only [qr4,go_sem]
  repeat' first
   |(refine qn ( .bool false) ?_;simp (disch:=omega) only [go_sem])
   |((first|refine cA (c160 _) ?_ ?_|refine cG (fun e=>c160 _) ?_ ?_|refine cU (fun _=>c160 _) ?_ ?_);exact flk;simp (disch:=omega) only [go_sem])
   |((first|apply qd|apply qb);exact rvk;simp only [go_sem];first|exact ql|apply qe|apply qa|apply qf|skip)
   |with_reducible first|intro _|apply aiA
  all_goals try exact clz
 |false=>
  rw [g]at c160
  refine acO qqY ?_
  simp (disch:=omega) only [qr4,go_sem]
  repeat' first
   |(refine qn ( .bool false) ?_;simp (disch:=omega) only [go_sem])
   |((first|refine cA (c160 _) ?_ ?_|refine cG (fun e=>c160 _) ?_ ?_|refine cU (fun _=>c160 _) ?_ ?_);exact flk;simp (disch:=omega) only [go_sem])
   |((first|apply qd|apply qb);exact rvk;simp only [go_sem];first|exact ql|apply qe|apply qa|apply qf|skip)
   |with_reducible first|intro _|apply aiA
  all_goals try exact clz
def jg (L:List Str):Int:=qbp (fun i=>wE (L.getD i [])) 0 L.length
theorem qCq (L:List Str) (h:List AObj) (hl:L.length≤1000000000) (hs: ∀i,(L.getD i []).length≤1000000000) (hp:kY SG h):ACalls Tryz.prog 138 [strs L] h (.int .i64 (jg L)) h:=by
 obtain ⟨R,hR⟩: ∃R,R=jg L:=⟨_,rfl⟩
 rw [←hR]
 unfold jg at hR
 refine acO qxo ?_
 simp (disch:=omega) only [qvQ,strs,go_sem]
 repeat' first
  |((first|apply qd|apply qb);exact rvk;simp only [go_sem];first|exact ql|apply qe|apply qa|apply qf|skip)
  |with_reducible first|intro _|apply aiA
 all_goals try exact clz
 refine qu (T:=fun i:Nat=>qT 19 [(6,strs L),(7,.int .i64 L.length),(8,.int .i64 i)]) (H:=fun _=>h) (inv:=fun i=>i≤L.length∧ ∀j,j<i→wE (L.getD j [])=0) (m:=fun i=>L.length-i) 0 ⟨Nat.zero_le _,fun j hj=>absurd hj (Nat.not_lt_zero j)⟩ (Wk.temps ?_) ?_
 ·(simp only [strs,go_sem,qk,qh,qg,qj];try (repeat' first|(with_reducible apply aiA)|(apply qe;omega)|(apply qa;rfl)|exact ql))
 rintro i ⟨i1,i2⟩ K hK
 by_cases hi:i<L.length
 ·have k1:((i:Int)<L.length)=True:=eq_true (by omega)
  have c145:=qC7 (L.getD i []) h (hs i) hp
  obtain ⟨e,he⟩: ∃e,e=wE (L.getD i []):=⟨_,rfl⟩
  rw [←he]at c145
  by_cases g:e=0
  ·have q1:(e=0)=True:=eq_true g
   simp (disch:=omega) only [strs,k1,go_sem]
   repeat' first
    |((first|refine cA (c145) ?_ ?_|refine cG (fun e=>c145) ?_ ?_);exact flk;simp (disch:=omega) only [strs,k1,q1,go_sem])
    |((first|apply qd|apply qb);exact rvk;simp only [go_sem];first|exact ql|apply qe|apply qa|apply qf|skip)
    |with_reducible first|intro _|apply aiA
   all_goals try exact clz
   refine hK _ _ (i+1) ⟨hi,fun j hj=> ?_⟩ (by omega) (Wk.temps ?_)
   ·by_cases e':j=i
    ·subst e';rw [←he,g]
    ·exact i2 j (by omega)
   ·(simp only [strs,go_sem,qk,qh,qg,qj];try (repeat' first|(with_reducible apply aiA)|(apply qe;omega)|(apply qa;rfl)|exact ql))
  ·have q1:(e=0)=False:=eq_false g
   have hV:R=e:=by rw [hR,zQ (f:=fun i=>wE (L.getD i [])) hi i2 (by rw [←he];exact g),he]
   rw [hV]
   simp (disch:=omega) only [strs,k1,go_sem]
   repeat' first
    |((first|refine cA (c145) ?_ ?_|refine cG (fun e=>c145) ?_ ?_);exact flk;simp (disch:=omega) only [strs,k1,q1,go_sem])
    |((first|apply qd|apply qb);exact rvk;simp only [go_sem];first|exact ql|apply qe|apply qa|apply qf|skip)
    |with_reducible first|intro _|apply aiA
   all_goals try exact clz
 ·have k1:((i:Int)<L.length)=False:=eq_false (by omega)
  have hV:R=0:=by rw [hR,qW (f:=fun i=>wE (L.getD i [])) (fun j hj=>i2 j (by omega))]
  rw [hV]
  simp (disch:=omega) only [strs,k1,go_sem]
  repeat' first
   |((first|apply qd|apply qb);exact rvk;simp only [go_sem];first|exact ql|apply qe|apply qa|apply qf|skip)
   |with_reducible first|intro _|apply aiA
  all_goals try exact clz
theorem qro (h:List AObj):ACalls Tryz.prog 259 [.str []] h (.bool true) h:=by
 refine acO qx2 ?_
 simp (disch:=omega) only [qwn,go_sem]
 repeat' first
  |(refine qn ( .bool false) ?_;simp (disch:=omega) only [go_sem])
  |((first|apply qd|apply qb);exact rvk;simp only [go_sem];first|exact ql|apply qe|apply qa|apply qf|skip)
  |with_reducible first|intro _|apply aiA
 all_goals try exact clz
theorem qz6 (a b c:Str) (n f g:Int) (d:Str) (h:List AObj) (hf:0≤f) (hf2:f≤31) (hg:0<g):ACalls Tryz.prog 255 [.agg [.str a,.str b,.str c,.int .i64 n,.int .i64 f,.str d],.int .i64 g] h (.bool (decide (f/g%2=1))) h:=by
 have k1:(g=0)=False:=eq_false (by omega)
 have k2:0≤f/g:=Int.ediv_nonneg hf (by omega)
 have k3:f/g≤f:=Int.ediv_le_self _ hf
 refine acO qxZ ?_
 simp (disch:=omega) only [qwk,k1,go_sem]
 repeat' first
  |((first|apply qd|apply qb);exact rvk;simp only [go_sem];first|exact ql|apply qe|apply qa|apply qf|skip)
  |with_reducible first|intro _|apply aiA
 all_goals try exact clz
theorem qCX (s:Str) (h:List AObj) (hs:s.length≤1000000000) (hp:kY SG h):ACalls Tryz.prog 256 [.str s] h (.bool (qbv s)) h:=by
 refine acO qx0 ?_
 simp (disch:=omega) only [qwl,go_sem]
 repeat' first
  |((first|apply qd|apply qb);exact rvk;simp only [go_sem];first|exact ql|apply qe|apply qa|apply qf|skip)
  |with_reducible first|intro _|apply aiA
 all_goals try exact clz
 refine qu (T:=fun i:Nat=>qT 14 [(0,.str s),(3,.int .i64 ((i+1:Nat):Int))]) (H:=fun _=>h) (inv:=fun i=>i≤64∧ ∀j,j<i→s≠91::(Lib.itoa ((j+1:Nat):Int)++ [93])) (m:=fun i=>64-i) 0 ⟨Nat.zero_le _,fun j hj=>absurd hj (Nat.not_lt_zero j)⟩ (Wk.temps ?_) ?_
 ·(simp only [go_sem,qk,qh,qg,qj];try (repeat' first|(with_reducible apply aiA)|(apply qe;omega)|(apply qa;rfl)|exact ql))
 rintro i ⟨i1,i2⟩ K hK
 have ec:((i+1:Nat):Int)=(i:Int)+1:=by omega
 by_cases hi:i<64
 ·have k1:((i:Int)+1≤64)=True:=eq_true (by omega)
  have c181:=t48 ((i:Int)+1) h (SG.pow hp) (by omega) (by omega)
  have hl:(Lib.itoa ((i:Int)+1)).length≤9:=by rw [←ec];exact qdN (by omega)
  obtain ⟨t,ht⟩: ∃t,t=Lib.itoa ((i:Int)+1):=⟨_,rfl⟩
  rw [←ht]at c181 hl
  by_cases g:s=91::(t++ [93])
  ·have q1:(s=91::(t++ [93]))=True:=eq_true g
   have hV:qbv s=true:=by
    unfold qbv
    rw [List.any_eq_true]
    exact ⟨i,by simpa using hi,decide_eq_true (by rw [ec,←ht];exact g)⟩
   rw [hV]
   simp (disch:=omega) only [ec,k1,go_sem]
   repeat' first
    |((first|refine cA (c181) ?_ ?_|refine cG (fun e=>c181) ?_ ?_);exact flk;simp (disch:=omega) only [k1,q1,go_sem])
    |((first|apply qd|apply qb);exact rvk;simp only [go_sem];first|exact ql|apply qe|apply qa|apply qf|skip)
    |with_reducible first|intro _|apply aiA
   all_goals try exact clz
  ·have q1:(s=91::(t++ [93]))=False:=eq_false g
   simp (disch:=omega) only [ec,k1,go_sem]
   repeat' first
    |((first|refine cA (c181) ?_ ?_|refine cG (fun e=>c181) ?_ ?_);exact flk;simp (disch:=omega) only [k1,q1,go_sem])
    |((first|apply qd|apply qb);exact rvk;simp only [go_sem];first|exact ql|apply qe|apply qa|apply qf|skip)
    |with_reducible first|intro _|apply aiA
   all_goals try exact clz
   refine hK _ _ (i+1) ⟨hi,fun j hj=> ?_⟩ (by omega) (Wk.temps ?_)
   ·by_cases e':j=i
    ·subst e';rw [ec,←ht];exact g
    ·exact i2 j (by omega)
   ·(simp only [go_sem,qk,qh,qg,qj];try (repeat' first|(with_reducible apply aiA)|(apply qe;omega)|(apply qa;rfl)|exact ql))
 ·have k1:((i:Int)+1≤64)=False:=eq_false (by omega)
  have hV:qbv s=false:=by
   cases e:qbv s with
   |false=>rfl
   |true=>
    unfold qbv at e
    rw [List.any_eq_true]at e
    obtain ⟨j,hj,e⟩:=e
    exact absurd (of_decide_eq_true e) (i2 j (by have:j<64:=(by simpa using hj);omega))
  rw [hV]
  simp (disch:=omega) only [ec,k1,go_sem]
  repeat' first
   |((first|apply qd|apply qb);exact rvk;simp only [go_sem];first|exact ql|apply qe|apply qa|apply qf|skip)
   |with_reducible first|intro _|apply aiA
  all_goals try exact clz
theorem qwN (s:Str) (h:List AObj) (hs:s.length≤1000000000) (hp:kY SG h):ACalls Tryz.prog 211 [.agg [.str s,.str s,.str [],.int .i64 0,.int .i64 2,.str []]] h (.int .i64 (if qbv s=true then 0 else 11)) h:=by
 have d1:decide ((2:Int)/2%2=1)=true:=rfl
 have d2:decide ((2:Int)/8%2=1)=false:=rfl
 have c1:=fun h=>qz6 s s [] 0 2 2 [] h (by decide) (by decide) (by decide)
 have c2:=fun h=>qz6 s s [] 0 2 8 [] h (by decide) (by decide) (by decide)
 rw [d1]at c1
 rw [d2]at c2
 have c3:=fun l=>qCX s (h++l) hs (hp.app l)
 have c4:=fun h=>qro h
 cases g:qbv s with
 |true=>
  rw [g]at c3
  refine acO qdj ?_
  simp (disch:=omega) only [qfy,go_sem]
  repeat' first
   |((first|refine cA (c1 _) ?_ ?_|refine cG (fun e=>c1 _) ?_ ?_|refine cA (c2 _) ?_ ?_|refine cG (fun e=>c2 _) ?_ ?_|refine cA (c3 _) ?_ ?_|refine cG (fun e=>c3 _) ?_ ?_|refine cA (c4 _) ?_ ?_|refine cG (fun e=>c4 _) ?_ ?_|refine cU (fun _=>c1 _) ?_ ?_|refine cU (fun _=>c2 _) ?_ ?_|refine cU (fun _=>c3 _) ?_ ?_|refine cU (fun _=>c4 _) ?_ ?_);exact flk;simp (disch:=omega) only [go_sem])
   |((first|apply qd|apply qb);exact rvk;simp only [go_sem];first|exact ql|apply qe|apply qa|apply qf|skip)
   |with_reducible first|intro _|apply aiA
  all_goals try exact clz
 |false=>
  rw [g]at c3
  refine acO qdj ?_
  simp (disch:=omega) only [qfy,go_sem]
  repeat' first
   |((first|refine cA (c1 _) ?_ ?_|refine cG (fun e=>c1 _) ?_ ?_|refine cA (c2 _) ?_ ?_|refine cG (fun e=>c2 _) ?_ ?_|refine cA (c3 _) ?_ ?_|refine cG (fun e=>c3 _) ?_ ?_|refine cA (c4 _) ?_ ?_|refine cG (fun e=>c4 _) ?_ ?_|refine cU (fun _=>c1 _) ?_ ?_|refine cU (fun _=>c2 _) ?_ ?_|refine cU (fun _=>c3 _) ?_ ?_|refine cU (fun _=>c4 _) ?_ ?_);exact flk;simp (disch:=omega) only [go_sem])
   |((first|apply qd|apply qb);exact rvk;simp only [go_sem];first|exact ql|apply qe|apply qa|apply qf|skip)
   |with_reducible first|intro _|apply aiA
  all_goals try exact clz
theorem qwO (s:Str) (h:List AObj) (hs:s.length≤1):ACalls Tryz.prog 211 [.agg [.str s,.str s,.str [],.int .i64 0,.int .i64 8,.str []]] h (.int .i64 (if s.length=1∧(zG (ch s 0)=5∨zG (ch s 0)=4) then 0 else 11)) h:=by
 have d1:decide ((8:Int)/2%2=1)=false:=rfl
 have d2:decide ((8:Int)/8%2=1)=true:=rfl
 have c1:=fun h=>qz6 s s [] 0 8 2 [] h (by decide) (by decide) (by decide)
 have c2:=fun h=>qz6 s s [] 0 8 8 [] h (by decide) (by decide) (by decide)
 rw [d1]at c1
 rw [d2]at c2
 have c4:=fun h=>qro h
 by_cases g:s.length=1
 ·have k1:((s.length:Int)=1)=True:=eq_true (by omega)
  have k2:((0:Int)<s.length)=True:=eq_true (by omega)
  have e:(s[0]?).getD 0=ch s 0:=by simp [ch,gdqA]
  have c5:=fun h=>kU (ch s 0) h
  obtain ⟨k,hk⟩: ∃k,k=zG (ch s 0):=⟨_,rfl⟩
  rw [←hk]at c5 ⊢
  by_cases g1:k=5
  ·have q1:(k=5)=True:=eq_true g1
   rw [if_pos ⟨g,.inl g1⟩]
   refine acO qdj ?_
   simp (disch:=omega) only [qfy,k1,go_sem]
   repeat' first
    |(refine qn ( .int .i64 0) ?_;simp (disch:=omega) only [k1,k2,e,q1,Int.toNat_zero,go_sem])
    |((first|refine cA (c1 _) ?_ ?_|refine cG (fun e=>c1 _) ?_ ?_|refine cA (c2 _) ?_ ?_|refine cG (fun e=>c2 _) ?_ ?_|refine cA (c5 _) ?_ ?_|refine cG (fun e=>c5 _) ?_ ?_|refine cA (c4 _) ?_ ?_|refine cG (fun e=>c4 _) ?_ ?_|refine cU (fun _=>c1 _) ?_ ?_|refine cU (fun _=>c2 _) ?_ ?_|refine cU (fun _=>c5 _) ?_ ?_|refine cU (fun _=>c4 _) ?_ ?_);exact flk;simp (disch:=omega) only [k1,k2,e,q1,Int.toNat_zero,go_sem])
    |((first|apply qd|apply qb);exact rvk;simp only [go_sem];first|exact ql|apply qe|apply qa|apply qf|skip)
    |with_reducible first|intro _|apply aiA
   all_goals try exact clz
  ·have q1:(k=5)=False:=eq_false g1
   by_cases g2:k=4
   ·have q2:(k=4)=True:=eq_true g2
    rw [if_pos ⟨g,.inr g2⟩]
    refine acO qdj ?_
    simp (disch:=omega) only [qfy,k1,go_sem]
    repeat' first
     |((first|refine cA (c1 _) ?_ ?_|refine cG (fun e=>c1 _) ?_ ?_|refine cA (c2 _) ?_ ?_|refine cG (fun e=>c2 _) ?_ ?_|refine cA (c5 _) ?_ ?_|refine cG (fun e=>c5 _) ?_ ?_|refine cA (c4 _) ?_ ?_|refine cG (fun e=>c4 _) ?_ ?_|refine cU (fun _=>c1 _) ?_ ?_|refine cU (fun _=>c2 _) ?_ ?_|refine cU (fun _=>c5 _) ?_ ?_|refine cU (fun _=>c4 _) ?_ ?_);exact flk;simp (disch:=omega) only [k1,k2,e,q1,q2,Int.toNat_zero,go_sem])
     |((first|apply qd|apply qb);exact rvk;simp only [go_sem];first|exact ql|apply qe|apply qa|apply qf|skip)
     |with_reducible first|intro _|apply aiA
    all_goals try exact clz
   ·have q2:(k=4)=False:=eq_false g2
    rw [if_neg (by rintro ⟨_,h|h⟩<;>contradiction)]
    refine acO qdj ?_
    simp (disch:=omega) only [qfy,k1,go_sem]
    repeat' first
     |((first|refine cA (c1 _) ?_ ?_|refine cG (fun e=>c1 _) ?_ ?_|refine cA (c2 _) ?_ ?_|refine cG (fun e=>c2 _) ?_ ?_|refine cA (c5 _) ?_ ?_|refine cG (fun e=>c5 _) ?_ ?_|refine cA (c4 _) ?_ ?_|refine cG (fun e=>c4 _) ?_ ?_|refine cU (fun _=>c1 _) ?_ ?_|refine cU (fun _=>c2 _) ?_ ?_|refine cU (fun _=>c5 _) ?_ ?_|refine cU (fun _=>c4 _) ?_ ?_);exact flk;simp (disch:=omega) only [k1,k2,e,q1,q2,Int.toNat_zero,go_sem])
     |((first|apply qd|apply qb);exact rvk;simp only [go_sem];first|exact ql|apply qe|apply qa|apply qf|skip)
     |with_reducible first|intro _|apply aiA
    all_goals try exact clz
 ·have k1:((s.length:Int)=1)=False:=eq_false (by omega)
  rw [if_neg (fun hc=>g hc.1)]
  refine acO qdj ?_
  simp (disch:=omega) only [qfy,k1,go_sem]
  repeat' first
   |(refine qn ( .int .i64 0) ?_;simp (disch:=omega) only [k1,go_sem])
   |((first|refine cA (c1 _) ?_ ?_|refine cG (fun e=>c1 _) ?_ ?_|refine cA (c2 _) ?_ ?_|refine cG (fun e=>c2 _) ?_ ?_|refine cA (c4 _) ?_ ?_|refine cG (fun e=>c4 _) ?_ ?_|refine cU (fun _=>c1 _) ?_ ?_|refine cU (fun _=>c2 _) ?_ ?_|refine cU (fun _=>c4 _) ?_ ?_);exact flk;simp (disch:=omega) only [k1,go_sem])
   |((first|apply qd|apply qb);exact rvk;simp only [go_sem];first|exact ql|apply qe|apply qa|apply qf|skip)
   |with_reducible first|intro _|apply aiA
  all_goals try exact clz
theorem qBJ (s:Str) (h:List AObj) (hs:s.length≤1000000000) (hp:kY SG h):ACalls Tryz.prog 193 [.str s] h (.bool (qda s)) h:=by
 have c1:=fun h=>t93 s h hs
 unfold qda
 cases g:qab s with
 |true=>
  rw [g]at c1
  refine acO qeA ?_
  simp (disch:=omega) only [qhw,go_sem]
  repeat' first
   |((first|refine cA (c1 _) ?_ ?_|refine cG (fun e=>c1 _) ?_ ?_|refine cU (fun _=>c1 _) ?_ ?_);exact flk;simp (disch:=omega) only [go_sem])
   |((first|apply qd|apply qb);exact rvk;simp only [go_sem];first|exact ql|apply qe|apply qa|apply qf|skip)
   |with_reducible first|intro _|apply aiA
  all_goals try exact clz
 |false=>
 rw [g]at c1
 rw [Bool.false_or]
 by_cases g1:1<s.length
 ·have k1:((1:Int)<s.length)=True:=eq_true (by omega)
  rw [if_neg (by omega)]
  have c2:=qwN s h hs hp
  cases g2:qbv s with
  |true=>
   rw [g2]at c2
   refine acO qeA ?_
   simp (disch:=omega) only [qhw,k1,go_sem]
   repeat' first
    |((first|refine cA (c1 _) ?_ ?_|refine cG (fun e=>c1 _) ?_ ?_|refine cA (c2) ?_ ?_|refine cG (fun e=>c2) ?_ ?_|refine cU (fun _=>c1 _) ?_ ?_);exact flk;simp (disch:=omega) only [k1,go_sem])
    |((first|apply qd|apply qb);exact rvk;simp only [go_sem];first|exact ql|apply qe|apply qa|apply qf|skip)
    |with_reducible first|intro _|apply aiA
   all_goals try exact clz
  |false=>
   rw [g2]at c2
   refine acO qeA ?_
   simp (disch:=omega) only [qhw,k1,go_sem]
   repeat' first
    |((first|refine cA (c1 _) ?_ ?_|refine cG (fun e=>c1 _) ?_ ?_|refine cA (c2) ?_ ?_|refine cG (fun e=>c2) ?_ ?_|refine cU (fun _=>c1 _) ?_ ?_);exact flk;simp (disch:=omega) only [k1,go_sem])
    |((first|apply qd|apply qb);exact rvk;simp only [go_sem];first|exact ql|apply qe|apply qa|apply qf|skip)
    |with_reducible first|intro _|apply aiA
   all_goals try exact clz
 ·have k1:((1:Int)<s.length)=False:=eq_false (by omega)
  have c2:=qwO s h (by omega)
  by_cases g2:s.length=1∧(zG (ch s 0)=5∨zG (ch s 0)=4)
  ·rw [if_pos g2]at c2
   rw [if_pos g2.1,show (decide (zG (ch s 0)=5)||decide (zG (ch s 0)=4))=true by simpa using g2.2]
   refine acO qeA ?_
   simp (disch:=omega) only [qhw,k1,go_sem]
   repeat' first
    |((first|refine cA (c1 _) ?_ ?_|refine cG (fun e=>c1 _) ?_ ?_|refine cA (c2) ?_ ?_|refine cG (fun e=>c2) ?_ ?_|refine cU (fun _=>c1 _) ?_ ?_);exact flk;simp (disch:=omega) only [k1,go_sem])
    |((first|apply qd|apply qb);exact rvk;simp only [go_sem];first|exact ql|apply qe|apply qa|apply qf|skip)
    |with_reducible first|intro _|apply aiA
   all_goals try exact clz
  ·rw [if_neg g2]at c2
   have hV:(if s.length=1 then decide (zG (ch s 0)=5)||decide (zG (ch s 0)=4) else qbv s)=false:=by
    by_cases g3:s.length=1
    ·rw [if_pos g3]
     simp only [Bool.or_eq_false_iff,decide_eq_false_iff_not]
     exact ⟨fun hc=>g2 ⟨g3,.inl hc⟩,fun hc=>g2 ⟨g3,.inr hc⟩⟩
    ·rw [if_neg g3]
     have:s= []:=List.eq_nil_of_length_eq_zero (by omega)
     subst this
     unfold qbv
     rw [List.any_eq_false]
     intro k _
     simp
   rw [hV]
   refine acO qeA ?_
   simp (disch:=omega) only [qhw,k1,go_sem]
   repeat' first
    |((first|refine cA (c1 _) ?_ ?_|refine cG (fun e=>c1 _) ?_ ?_|refine cA (c2) ?_ ?_|refine cG (fun e=>c2) ?_ ?_|refine cU (fun _=>c1 _) ?_ ?_);exact flk;simp (disch:=omega) only [k1,go_sem])
    |((first|apply qd|apply qb);exact rvk;simp only [go_sem];first|exact ql|apply qe|apply qa|apply qf|skip)
    |with_reducible first|intro _|apply aiA
   all_goals try exact clz
theorem qC8 (s:Str) (h:List AObj) (hs:s.length≤1000000000) (hp:kY SG h):ACalls Tryz.prog 137 [.agg [.str s,.str [],.int .i64 0]] h (.int .i64 (wE s)) h:=by
 have c1:=fun l=>qBJ s (h++l) hs (hp.app l)
 unfold wE
 cases g:qda s with
 |true=>
  rw [g]at c1
  refine acO qqU ?_
  simp (disch:=omega) only [qr0,go_sem]
  repeat' first
   |(refine qn ( .bool false) ?_;simp (disch:=omega) only [go_sem])
   |((first|refine cA (c1 _) ?_ ?_|refine cG (fun e=>c1 _) ?_ ?_|refine cU (fun _=>c1 _) ?_ ?_);exact flk;simp (disch:=omega) only [go_sem])
   |((first|apply qd|apply qb);exact rvk;simp only [go_sem];first|exact ql|apply qe|apply qa|apply qf|skip)
   |with_reducible first|intro _|apply aiA
  all_goals try exact clz
 |false=>
  rw [g]at c1
  refine acO qqU ?_
  simp (disch:=omega) only [qr0,go_sem]
  repeat' first
   |(refine qn ( .bool false) ?_;simp (disch:=omega) only [go_sem])
   |((first|refine cA (c1 _) ?_ ?_|refine cG (fun e=>c1 _) ?_ ?_|refine cU (fun _=>c1 _) ?_ ?_);exact flk;simp (disch:=omega) only [go_sem])
   |((first|apply qd|apply qb);exact rvk;simp only [go_sem];first|exact ql|apply qe|apply qa|apply qf|skip)
   |with_reducible first|intro _|apply aiA
  all_goals try exact clz
end RC
end
section
open Go Go.Proofs AF HY LN
namespace RC
theorem gt1 (n:Int) (h:List AObj):ACalls Tryz.prog 191 [.int .i64 n] h (.bool (decide (1<n))) h:=by
 refine acO qxD ?_
 simp (disch:=omega) only [qv2,go_sem]
 repeat' first
  |((first|apply qd|apply qb);exact rvk;simp only [go_sem];first|exact ql|apply qe|apply qa|apply qf|skip)
  |with_reducible first|intro _|apply aiA
 all_goals try exact clz
theorem qAu (cs:List Int) (h:List AObj) (hl:cs.length≤1000000):ACalls Tryz.prog 190 [qq cs,.fn (.func 191) [] []] h (.bool (zd (fun i=>decide (1<cs.getD i 0)) cs.length)) h:=
 qhK qxC ⟨rfl,rfl⟩ ⟨rfl,rfl⟩ (qaD qxS cs.length (fun i=> [.int .i64 (cs.getD i 0)]) (fun i=> .int .i64 (cs.getD i 0)) _ [] [] _ h (fun i _=>⟨rfl,by simp [zZ],rfl,rfl,rfl⟩) (fun i _=>gt1 _ _) (by omega))
open Go.Shelf Go.RowKit in
theorem qoc (cs:List Int) (w:World) (b:Nat) (hl:cs.length=32) (hb:b<w.heap.size) (hc: ∀i,i<32→w.cell? ⟨b,i,none⟩=some (.int .i64 (cs.getD i 0))):
  Calls Tryz.prog 190 #[.slice (some ⟨b,0,none⟩) 32 32,.func (.func 191) #[] #[]] w fun e w'=>e= .returned (.bool (zd (fun i=>decide (1<cs.getD i 0)) cs.length))∧Below w.heap.size w w':=by
 have H0:HR w [] []:=⟨rfl,by simp,by simp,by simp⟩
 have h0: ∀b,¬own [] b:=fun b ⟨k,o,h1,_⟩=>by simp at h1
 have hI:qq cs= .sl 32 (fun i=> [.int .i64 (cs.getD i 0)]):=by unfold qq;rw [hl]
 have h3:=qAu cs [] (by omega)
 rw [hI]at h3
 have h3:=h3.2 w [] [.slice (some ⟨b,0,none⟩) 32 32,.func (.func 191) #[] #[]] H0 ⟨rfl,fun i c x hc' hx=>by
  match i with
  |0=>
   simp at hc' hx
   subst hc' hx
   refine .imm (.sl 1 b 0 32 (fun i j=> .int .i64 (cs.getD i 0)) (Nat.le_refl _) (by decide) (fun _=>h0 b) hb (fun i _=>rfl) (fun i j hi hj=> ?_) (fun i j _ _=>rfl) (fun i j c hi hj=> ?_))
   ·have:j=0:=by omega
    subst this
    simpa using hc i (by omega)
   ·match j with
    |0=>simp at hj;subst hj;exact .int
    |j+1=>simp at hj
  |1=>
   simp at hc' hx
   subst hc' hx
   exact .imm (.fn rfl rfl (by simp) (by simp))
  |i+2=>simp at hc'⟩
 refine (callsIn_wide.1 h3).mono ?_
 rintro e w' ⟨v,σ',rfl,g1,g2,g3⟩
 obtain rfl:=zY g2
 exact ⟨rfl,⟨g3.os,g3.tape,g3.output,g3.size,fun k hk=>g3.keep k hk (h0 k)⟩⟩
open Go.Shelf Go.RowKit in
theorem qqm (cs:List Int) (w:World) (hl:cs.length=32):
  Calls Tryz.prog 133 #[.agg (cs.map fun n=>Value.int .i64 n).toArray] w fun e w'=>e= .returned (.bool (zd (fun i=>decide (1<cs.getD i 0)) cs.length))∧Below w.heap.size w w':=by
 go_enter Tryz.func133,Tryz.ntmps133
 go_wp2_with (go_at_fn 190)
 have hh: ∀o:Obj,(w.alloc o).heap[w.heap.size]? =some o:=fun o=>by
  show (w.heap.push o)[w.heap.size]? =some o
  simp
 refine (qoc cs _ _ hl ?_ ?_).mono ?_
 ·show w.heap.size<(w.heap.push _).size
  simp
 ·intro i hi
  simp only [World.cell?,hh]
  simp [gdqA,hl,hi]
 ·rintro e w' ⟨rfl,hb⟩
  simp only
  go_wp2
  go_ret
  exact ⟨rfl,((Below.refl _ _).alloc (Nat.le_refl _) _).trans (hb.mono (by show w.heap.size≤(w.heap.push _).size;simp))⟩
theorem twP (cs:List Int) (h:List AObj) (hl:cs.length=32):ACalls Tryz.prog 133 [.agg (cs.map fun n=>AV.int .i64 n)] h (.bool (zd (fun i=>decide (1<cs.getD i 0)) cs.length)) h:=by
 refine ⟨qvs Tryz.func133 (by kernel_rfl) (by kernel_rfl),fun w σ xs H hv=> ?_⟩
 obtain ⟨x,rfl,hx⟩:=hv.one
 obtain ⟨vs,rfl,hvl,_,hvv⟩:=qbl hx
 have e:vs=(cs.map fun n=>Value.int .i64 n).toArray:=by
  apply Array.ext
  ·simpa using hvl
  ·intro i h1 h2
   have hi:i<cs.length:=by simpa using h2
   have:=hvv i (.int .i64 cs[i]) vs[i] (by simp [hi]) (by simp [h1])
   rw [zi this]
   simp
 subst e
 refine (callsIn_wide.2 (qqm cs w hl)).mono ?_
 rintro e w' ⟨rfl,hb⟩
 obtain ⟨g1,g2⟩:=Ext.ofBelow H hb
 exact ⟨_,σ,rfl,g1,.imm .bool,g2⟩
end RC
end
section
open Go Go.Proofs AF HY LN
namespace RC
def qcW (C L:List Int):List Int:=L.foldl (fun C n=>C.set n.toNat (C.getD n.toNat 0+1)) C
theorem qce (L:List Int): ∀C:List Int,(qcW C L).length=C.length:=by
 induction L with
 |nil=>intro C;rfl
 |cons n L ih=>intro C;show (qcW (C.set _ _) L).length=_;rw [ih];simp
theorem qeo {C L:List Int} {i:Nat} (hi:i<L.length):qcW C (L.take (i+1))=(qcW C (L.take i)).set (L.getD i 0).toNat ((qcW C (L.take i)).getD (L.getD i 0).toNat 0+1):=by
 unfold qcW
 rw [List.take_add_one,zf hi,List.foldl_append,gdqA,zf hi]
 rfl
theorem qls {C:List Int} {n:Nat} (x:Int) (h:n<C.length):List.take n (qH C)++ [AV.int .i64 x]++List.drop (n+1) (qH C)=qH (C.set n x):=by
 unfold qH
 rw [←List.map_take,←List.map_drop,List.set_eq_take_append_cons_drop,if_pos h]
 simp
theorem qeK {C:List Int} {n:Nat} (h:n<C.length):(qH C)[n]? =some (.int .i64 (C.getD n 0)):=by
 unfold qH
 rw [List.getElem?_map,zf h,gdqA,zf h]
 rfl
theorem qlx {L:List Int} {n:Nat} {c:AV} (h:c∈qH L):jd n c=true:=by
 unfold qH at h
 obtain ⟨x,_,rfl⟩:=List.mem_map.1 h
 rfl
theorem qoB {names:List Str} {gs:List Gr} {sg:List Str}:inB names.length (ju names gs sg)∧ ∀i,0<i→i<(ju names gs sg).length→(ju names gs sg).getD (i-1) 0<(ju names gs sg).getD i 0:=by
 unfold ju
 split
 ·rename_i h
  have h':=h
  unfold qaY at h'
  split at h'
  ·cases h'
  rename_i h1
  have hok:=qcQ (by simpa using h1)
  have hz:=jk.1 h'
  obtain ⟨m1,m2⟩:=qfr hok hz
  have hsort:(jh (qfq names gs sg sg.length).testBit 64).Pairwise (· < ·):=by
   unfold jh
   rw [List.pairwise_map]
   exact (List.pairwise_lt_range.filter _).imp (fun h=>Int.ofNat_lt.2 h)
  have hmem: ∀n∈jh (qfq names gs sg sg.length).testBit 64,0≤n∧n<names.length:=by
   intro n hn
   unfold jh at hn
   obtain ⟨k,hk,rfl⟩:=List.mem_map.1 hn
   have hk2:=(List.mem_filter.1 hk).2
   rw [m2 k]at hk2
   obtain ⟨j,hj,hm⟩:=of_decide_eq_true hk2
   have hf: ¬(nIx names (sg.getD j [])<0∧gIx gs (sg.getD j [])<0):=by
    intro hc
    have:=hz j hj
    unfold qd3 at this
    rw [if_pos hc]at this
    cases this
   exact jK (qkO hok hf) _ hm
  refine ⟨fun i hi=> ?_,fun i h0 hi=> ?_⟩
  ·rw [gdqA,zf hi]
   exact hmem _ (List.getElem_mem hi)
  ·rw [gdqA,gdqA,zf hi,zf (show i-1<_ by omega)]
   exact List.pairwise_iff_getElem.1 hsort (i-1) i (by omega) hi (by omega)
 ·exact ⟨fun i hi=>absurd hi (Nat.not_lt_zero i),fun i _ hi=>absurd hi (Nat.not_lt_zero i)⟩
theorem qgH {names:List Str} {gs:List Gr} {sg:List Str}:inB 32 (ju names gs sg):=by
 by_cases h:qaY names gs sg=0
 ·have h':=h
  unfold qaY at h'
  split at h'
  ·cases h'
  rename_i h1
  have hok:=qcQ (by simpa using h1)
  exact qdJ qoB.1 (by have:=hok.n32;omega)
 ·have:ju names gs sg= []:=by unfold ju;rw [if_neg h]
  rw [this]
  exact fun i hi=>absurd hi (Nat.not_lt_zero i)
theorem qdI {names:List Str} {gs:List Gr} {sg:List Str}:(ju names gs sg).length≤64:=by
 unfold ju
 split
 ·exact zS _ _
 ·simp
theorem qdB {C L:List Int} {B:Int} (hc: ∀i,0≤C.getD i 0∧C.getD i 0≤B): ∀(i:Nat),i≤L.length→ ∀j,0≤(qcW C (L.take i)).getD j 0∧(qcW C (L.take i)).getD j 0≤B+i:=by
 intro i
 induction i with
 |zero=>intro _ j;simpa [qcW] using hc j
 |succ i ih=>
  intro hi j
  rw [qeo (by omega)]
  have h1:=ih (by omega) j
  have h2:=ih (by omega) (L.getD i 0).toNat
  rw [gdqA,List.getElem?_set]
  split
  ·rename_i e1
   split
   ·simp only [Option.getD_some];omega
   ·simp;omega
  ·rw [←gdqA];omega
theorem qB5 (names:List Str) (gs:List Gr) (sg:List Str) (C:List Int) (k v:Nat) (ty:TypeId) (h:List AObj) (hz:Szs names gs) (hs:sg.length≤1000000000) (hk:getO k h=some (.mem v ty (qH C))) (hC:C.length=32) (B:Int) (hB0:B≤1000000000000000000) (hc: ∀i,0≤C.getD i 0∧C.getD i 0≤B):
  ACalls Tryz.prog 132 [strs names,qF gs,strs sg,.op k v 0] h (.int .i64 (qaY names gs sg)) (setO k h (.mem v ty (qH (qcW C (ju names gs sg))))):=by
 have c62:=fun h=>qCS names gs sg h hz hs
 have hB:= @qgH names gs sg
 have hL:= @qdI names gs sg
 obtain ⟨L,hLx⟩: ∃L,L=ju names gs sg:=⟨_,rfl⟩
 rw [←hLx]at c62 hB hL ⊢
 obtain ⟨e,he⟩: ∃e,e=qaY names gs sg:=⟨_,rfl⟩
 rw [←he]at c62 ⊢
 have hkl:=kk hk
 have bnd:=qdB (L:=L) hc
 refine acO qxn ?_
 simp (disch:=omega) only [qvP,go_sem]
 repeat' first
  |((first|refine cA (c62 _) ?_ ?_|refine cG (fun e=>c62 _) ?_ ?_|refine cU (fun _=>c62 _) ?_ ?_);exact flk;simp (disch:=omega) only [qq,go_sem])
  |((first|apply qd|apply qb);exact rvk;simp only [go_sem];first|exact ql|apply qe|apply qa|apply qf|skip)
  |with_reducible first|intro _|apply aiA
 all_goals try exact clz
 refine qu (T:=fun i:Nat=>qT 36 [(3,.op k v 0),(10,.int .i64 e),(20,qq L),(21,.int .i64 L.length),(22,.int .i64 i)]) (H:=fun i=>setO k h (.mem v ty (qH (qcW C (L.take i))))) (inv:=fun i=>i≤L.length) (m:=fun i=>L.length-i) 0 (Nat.zero_le _) ?_ ?_
 ·have e0:setO k h (.mem v ty (qH (qcW C (L.take 0))))=h:=setO_same hk
  rw [e0]
  refine Wk.temps ?_
  (simp only [qq,go_sem,qk,qh,qg,qj];try (repeat' first|(with_reducible apply aiA)|(apply qe;omega)|(apply qa;rfl)|exact ql))
 rintro i i1 K hK
 have hl:=qce (L.take i) C
 rw [hC]at hl
 have bn:=bnd i i1
 have hst:= @qeo C L i
 obtain ⟨D,hD⟩: ∃D,D=qcW C (L.take i):=⟨_,rfl⟩
 have eD:=hD.symm
 rw [eD]at hl bn hst
 have f1:cellsOf (setO k h (.mem v ty (qH D))) k v=some (qH D):=qX (qa7 hkl)
 have f2:=qa7 (o:= .mem v ty (qH D)) hkl
 have f3: ∀o',setO k (setO k h (.mem v ty (qH D))) o'=setO k h o':=fun _=>qmv
 by_cases hi:i<L.length
 ·have k1:((i:Int)<L.length)=True:=eq_true (by omega)
  have hv:=hB i hi
  have hst:=hst hi
  obtain ⟨n,hn⟩: ∃n,n=L.getD i 0:=⟨_,rfl⟩
  have en:=hn.symm
  rw [en]at hv hst
  obtain ⟨u,rfl⟩: ∃u:Nat,n=(u:Int):=⟨n.toNat,by omega⟩
  rw [Int.toNat_natCast]at hst
  have hu:u<D.length:=by omega
  have k2:(0≤(u:Int))=True:=eq_true (by omega)
  have k3:((u:Int)<32)=True:=eq_true (by omega)
  have k4:(u<D.length)=True:=eq_true hu
  have k5:(u+1≤D.length)=True:=eq_true hu
  have g1:=qeK hu
  have g2:=qls (D.getD u 0+1) hu
  have g3:=zq D
  have b1:=bn u
  have b2:(D.getD u 0+1≤9223372036854775807)=True:=eq_true (by omega)
  have b3:(-9223372036854775808≤D.getD u 0+1)=True:=eq_true (by omega)
  simp (disch:=omega) only [qq,k1,k2,k3,k4,k5,en,eD,f1,f2,f3,g1,g2,g3,Nat.mul_one,Nat.zero_add,Option.getD_some,Option.isSome_some,go_sem]
  repeat' first
   |((first|apply qd|apply qb);exact rvk;simp only [go_sem];first|exact ql|apply qe|apply qa|apply qf|skip)
   |with_reducible first|intro _|apply aiA
  all_goals try exact clz
  rw [←hst]
  refine hK _ _ (i+1) hi (by omega) (Wk.temps ?_)
  (simp only [qq,go_sem,qk,qh,qg,qj];try (repeat' first|(with_reducible apply aiA)|(apply qe;omega)|(apply qa;rfl)|exact ql))
 ·have k1:((i:Int)<L.length)=False:=eq_false (by omega)
  have e':i=L.length:=by omega
  subst e'
  rw [List.take_length]at hD
  rw [List.take_length,←hD]
  simp (disch:=omega) only [qq,k1,go_sem]
  repeat' first
   |with_reducible first|intro _|apply aiA
  refine qgS ⟨trivial,trivial⟩ qci (fun o ho=> ?_) ⟨rfl,rfl⟩ (ql)
  rcases qo6 ho with h1|rfl
  ·exact .inl h1
  ·exact .inr (fun c hc=>qlx hc)
structure Tk where
 text:Str
 norm:Str
 page:Str
 line:Int
 flags:Int
 name:Str
 deriving Inhabited, DecidableEq
def tkC (t:Tk):List AV:= [.str t.text,.str t.norm,.str t.page,.int .i64 t.line,.int .i64 t.flags,.str t.name]
def jE (l:List Tk):AV:= .sl l.length fun i=>tkC (l.getD i default)
def qr (L:List (List Tk)):AV:= .sl L.length fun i=> [jE (L.getD i [])]
def qp (L:List (List Int)):AV:= .sl L.length fun i=> [qq (L.getD i [])]
structure Co where
 sec:Str
 sig:List Str
 tok:List (List Tk)
 col:List (List Int)
 deriving Inhabited
def coC (x:Co):List AV:= [.str x.sec,strs x.sig,qr x.tok,qp x.col]
structure Rd where
 words:List Str
 src:List Int
 deriving Inhabited, DecidableEq
def rdC (r:Rd):List AV:= [strs r.words,qq r.src]
def zC (l:List Rd):AV:= .sl l.length fun i=>rdC (l.getD i default)
structure Un where
 frm:Int
 to:Int
 rds:List Rd
 deriving Inhabited, DecidableEq
def unC (u:Un):List AV:= [.int .i64 u.frm,.int .i64 u.to,zC u.rds]
def qE (l:List Un):AV:= .sl l.length fun i=>unC (l.getD i default)
structure Wd where
 text:Str
 col:Int
 unit:Int
 dec:Int
 joined:Bool
 verse:Bool
 name:Str
 deriving Inhabited, DecidableEq
def wdC (w:Wd):List AV:= [.str w.text,.int .i64 w.col,.int .i64 w.unit,.int .i64 w.dec,.bool w.joined,.bool w.verse,.str w.name]
def qM (l:List Wd):AV:= .sl l.length fun i=>wdC (l.getD i default)
theorem flag_tksV (L:List Tk):(jE L).flag=true:=rfl
theorem strip_tksV (L:List Tk):(jE L).strip=jE L:=rfl
theorem flag_tkssV (L:List (List Tk)):(qr L).flag=true:=rfl
theorem strip_tkssV (L:List (List Tk)):(qr L).strip=qr L:=rfl
theorem flag_colsV (L:List (List Int)):(qp L).flag=true:=rfl
theorem strip_colsV (L:List (List Int)):(qp L).strip=qp L:=rfl
theorem flag_rdsV (L:List Rd):(zC L).flag=true:=rfl
theorem strip_rdsV (L:List Rd):(zC L).strip=zC L:=rfl
theorem flag_unsV (L:List Un):(qE L).flag=true:=rfl
theorem strip_unsV (L:List Un):(qE L).strip=qE L:=rfl
theorem flag_wdsV (L:List Wd):(qM L).flag=true:=rfl
theorem strip_wdsV (L:List Wd):(qM L).strip=qM L:=rfl
section
variable {fz : Nat → Bool} {h : List AObj} {n : Nat}
theorem rei_tksV (L:List Tk):rei fz h (n+1) (jE L)=jE L:=rfl
theorem rei_tkssV (L:List (List Tk)):rei fz h (n+1) (qr L)=qr L:=rfl
theorem rei_colsV (L:List (List Int)):rei fz h (n+1) (qp L)=qp L:=rfl
theorem rei_rdsV (L:List Rd):rei fz h (n+1) (zC L)=zC L:=rfl
theorem rei_unsV (L:List Un):rei fz h (n+1) (qE L)=qE L:=rfl
theorem rei_wdsV (L:List Wd):rei fz h (n+1) (qM L)=qM L:=rfl
theorem frz_tksV (L:List Tk):frz fz h (n+1) (jE L)=jE L:=rfl
theorem frz_tkssV (L:List (List Tk)):frz fz h (n+1) (qr L)=qr L:=rfl
theorem frz_colsV (L:List (List Int)):frz fz h (n+1) (qp L)=qp L:=rfl
theorem frz_rdsV (L:List Rd):frz fz h (n+1) (zC L)=zC L:=rfl
theorem frz_unsV (L:List Un):frz fz h (n+1) (qE L)=qE L:=rfl
theorem frz_wdsV (L:List Wd):frz fz h (n+1) (qM L)=qM L:=rfl
end
attribute [go_sem] flag_tksV strip_tksV flag_tkssV strip_tkssV flag_colsV strip_colsV flag_rdsV strip_rdsV flag_unsV strip_unsV flag_wdsV strip_wdsV rei_tksV rei_tkssV rei_colsV rei_rdsV rei_unsV rei_wdsV frz_tksV frz_tkssV frz_colsV frz_rdsV frz_unsV frz_wdsV
def qth (f:Int):Bool:=f.toNat.testBit 1
def mkB (f:Int):Bool:=f.toNat.testBit 3
def qvq (s:Str):Bool:=decide (s= [])||jG s
def qyR (s:Str):Bool:=decide (s.length=1)&&(decide (zG (ch s 0)=5)||decide (zG (ch s 0)=4))
def qts (c:UInt8):Bool:=decide (zG c=1)||(decide (zG c=3)||(decide (zG c=2)||decide (zG c=4)))
def qyS (s:Str):Bool:=decide (s≠ [])&&(decide (s.length≤64)&&(List.range s.length).all fun i=>qts (ch s i))
def txB (t:Tk):Bool:=if qth t.flags=true then qbv t.text&&decide (t.norm=t.text) else if mkB t.flags=true then qyR t.text&&decide (t.norm=t.text) else qab t.text&&qyS t.norm
def tkE (t:Tk):Int:=
 if t.flags<0∨31<t.flags then 2 else if qth t.flags=true∧mkB t.flags=true then 8 else if txB t=false then 11 else if t.line<0 then 2 else if qvq t.page=false∨qvq t.name=false then 14 else 0
def qiQ (l:List Tk):Int:=if 1024<l.length then 4 else if zd (fun j=>decide (tkE (l.getD j default)≠0)) l.length=true then 1 else 0
def srE (x:Co):Int:=
 if jG x.sec=false then 14 else if x.sig.length=0 then 5 else if 32<x.sig.length then 4 else if qbp (jH x.sig) 0 x.sig.length≠0 then qbp (jH x.sig) 0 x.sig.length else
  if x.tok.length≠x.sig.length then 9 else qbp (fun i=>qiQ (x.tok.getD i [])) 0 x.tok.length
def cnC (col:List (List Int)) (s:Nat):Nat→Nat
 |0=>0
 |i+1=>cnC col s i+if (col.getD i []).getD s 0= -1 then 0 else 1
def enB (tok:List (List Tk)) (col:List (List Int)) (i s:Nat):Bool:=
 decide ((col.getD i []).getD s 0= -1)||(decide ((col.getD i []).getD s 0=(cnC col s i:Int))&&decide ((col.getD i []).getD s 0<((tok.getD s []).length:Int)))
def qfF (tok:List (List Tk)) (col:List (List Int)) (i:Nat):Bool:=
 decide ((col.getD i []).length=tok.length)&&(!zd (fun s=> !enB tok col i s) tok.length&&zd (fun s=> !decide ((col.getD i []).getD s 0= -1)) tok.length)
def alB (tok:List (List Tk)) (col:List (List Int)):Bool:=
 !zd (fun i=> !qfF tok col i) col.length&& !zd (fun s=> !decide (cnC col s col.length=(tok.getD s []).length)) tok.length
def coE (x:Co):Int:=if srE x≠0 then srE x else if alB x.tok x.col=false then 19 else 0
structure CoOk (x:Co):Prop where
 sg:0<x.sig.length∧x.sig.length≤32
 tn:x.tok.length=x.sig.length
 tl: ∀s,s<x.tok.length→(x.tok.getD s []).length≤1024
 te: ∀s,s<x.tok.length→ ∀j,j<(x.tok.getD s []).length→tkE ((x.tok.getD s []).getD j default)=0
 cl: ∀i,i<x.col.length→(x.col.getD i []).length=x.sig.length
 ce: ∀i,i<x.col.length→ ∀s,s<x.sig.length→(x.col.getD i []).getD s 0= -1∨((x.col.getD i []).getD s 0=(cnC x.col s i:Int)∧(x.col.getD i []).getD s 0<((x.tok.getD s []).length:Int))
 cs: ∀i,i<x.col.length→ ∃s,s<x.sig.length∧(x.col.getD i []).getD s 0≠ -1
 ct: ∀s,s<x.sig.length→cnC x.col s x.col.length=(x.tok.getD s []).length
theorem qgE {x:Co} (h:coE x=0):CoOk x:=by
 unfold coE at h
 split at h
 ·rename_i h1;exact absurd h h1
 rename_i h1
 have h1:=Classical.not_not.1 h1
 split at h
 ·cases h
 rename_i h2
 unfold srE at h1
 split at h1
 ·cases h1
 split at h1
 ·cases h1
 rename_i g2
 split at h1
 ·cases h1
 rename_i g3
 split at h1
 ·rename_i g4;exact absurd h1 g4
 split at h1
 ·cases h1
 rename_i g5
 have g5:=Classical.not_not.1 g5
 have h3:=jk.1 h1
 have h2:alB x.tok x.col=true:=by simpa using h2
 unfold alB at h2
 rw [Bool.and_eq_true,Bool.not_eq_true',Bool.not_eq_true',qo,qo]at h2
 obtain ⟨h4,h5⟩:=h2
 have h6: ∀i,i<x.col.length→qfF x.tok x.col i=true:=fun i hi=>by simpa using h4 i hi
 have hrow: ∀s,s<x.tok.length→(x.tok.getD s []).length≤1024∧ ∀j,j<(x.tok.getD s []).length→tkE ((x.tok.getD s []).getD j default)=0:=fun s hs=>by
  have:=h3 s hs
  unfold qiQ at this
  split at this
  ·cases this
  rename_i k1
  split at this
  ·cases this
  rename_i k2
  refine ⟨by omega,fun j hj=> ?_⟩
  have:=qo.1 (by simpa using k2) j hj
  simpa using this
 refine ⟨by omega,g5,fun s hs=>(hrow s hs).1,fun s hs=>(hrow s hs).2,fun i hi=> ?_,fun i hi s hs=> ?_,fun i hi=> ?_,fun s hs=> ?_⟩
 ·have:=h6 i hi
  unfold qfF at this
  rw [Bool.and_eq_true,decide_eq_true_iff]at this
  omega
 ·have:=h6 i hi
  unfold qfF at this
  rw [Bool.and_eq_true,Bool.and_eq_true,Bool.not_eq_true',qo]at this
  have:=this.2.1 s (by omega)
  have this:enB x.tok x.col i s=true:=by simpa using this
  unfold enB at this
  simpa [Bool.or_eq_true,Bool.and_eq_true] using this
 ·have:=h6 i hi
  unfold qfF at this
  rw [Bool.and_eq_true,Bool.and_eq_true]at this
  obtain ⟨s,hs,hv⟩:=qG.1 this.2.2
  exact ⟨s,by omega,by simpa using hv⟩
 ·have:=h5 s (by omega)
  simpa using this
def clT (x:Co) (k s:Nat):Option Str:=if (x.col.getD k []).getD s 0<0 then none else some ((x.tok.getD s []).getD ((x.col.getD k []).getD s 0).toNat default).text
def cmB (x:Co) (k:Nat):Bool:= !zd (fun s=>decide (clT x k s=none)|| !decide (clT x k s=clT x k 0)) x.sig.length
def rdG (x:Co) (s f:Nat):Nat→List Str
 |0=> []
 |d+1=>rdG x s f d++(clT x (f+d) s).toList
theorem qdX (x:Co) (s f:Nat): ∀d,(rdG x s f d).length≤d:=by
 intro d
 induction d with
 |zero=>exact Nat.le_refl _
 |succ d ih=>
  unfold rdG
  rw [List.length_append]
  cases clT x (f+d) s with
  |none=>simp only [Option.toList_none,List.length_nil];omega
  |some w=>simp only [Option.toList_some,List.length_cons,List.length_nil];omega
def qja (L:List Rd) (w:List Str):Int:=qad (fun j=>decide (w=(L.getD j default).words)) L.length 0
def qfm (L:List Rd) (w:List Str) (s:Nat):List Rd:=if qja L w<0 then L++ [⟨w,[(s:Int)]⟩] else L.set (qja L w).toNat ⟨w,(L.getD (qja L w).toNat default).src++ [(s:Int)]⟩
def qbY (x:Co) (f d:Nat):Nat→List Rd
 |0=> []
 |s+1=>qfm (qbY x f d s) (rdG x s f d) s
def qg7 (x:Co) (f t:Nat):List Rd:=qbY x f (t-f) x.sig.length
theorem qnJ (L:List Rd) (w:List Str) (s:Nat):(qfm L w s).length≤L.length+1:=by
 unfold qfm
 split
 ·simp
 ·rw [List.length_set];omega
theorem qg9 (x:Co) (f d:Nat): ∀s,(qbY x f d s).length≤s:=by
 intro s
 induction s with
 |zero=>exact Nat.le_refl _
 |succ s ih=>
  have:=qnJ (qbY x f d s) (rdG x s f d) s
  unfold qbY
  omega
def unB (x:Co) (beh:Int) (u:Un):Bool:= !(decide (u.frm≤beh)||(decide (u.frm<0)||(decide (u.to≤u.frm)||(decide ((x.col.length:Int)<u.to)|| !decide (u.rds=qg7 x u.frm.toNat u.to.toNat)))))
def beH (l:List Un) (i:Nat):Int:=if i=0 then-1 else (l.getD (i-1) default).to
def qm6 (x:Co) (l:List Un):Bool:= !zd (fun i=> !unB x (beH l i) (l.getD i default)) l.length
def cvB (l:List Un) (k:Nat):Bool:=zd (fun i=>decide ((l.getD i default).frm≤k)&&decide ((k:Int)<(l.getD i default).to)) l.length
def cvA (x:Co) (l:List Un):Bool:= !zd (fun k=> !cvB l k&& !cmB x k) x.col.length
def rgB (x:Co) (l:List Un):Bool:=qm6 x l&&cvA x l
def vaE (x:Co) (l:List Un):Int:=if coE x≠0 then 1 else if rgB x l=false then 20 else 0
def nxt (p:Nat→Bool):Nat→Nat→Nat
 |0,k=>k
 |d+1,k=>if p k=true then k else nxt p d (k+1)
theorem qdR (p:Nat→Bool): ∀d k,k≤nxt p d k∧nxt p d k≤k+d∧(∀j,k≤j→j<nxt p d k→p j=false)∧(nxt p d k<k+d→p (nxt p d k)=true):=by
 intro d
 induction d with
 |zero=>intro k;exact ⟨Nat.le_refl _,Nat.le_refl _,fun j h1 h2=>by unfold nxt at h2;omega,fun h=>by unfold nxt at h;omega⟩
 |succ d ih=>
  intro k
  unfold nxt
  split
  ·rename_i h
   exact ⟨Nat.le_refl _,by omega,fun j h1 h2=>by omega,fun _=>h⟩
  ·rename_i h
   obtain ⟨h1,h2,h3,h4⟩:=ih (k+1)
   refine ⟨by omega,by omega,fun j g1 g2=> ?_,fun g=>h4 (by omega)⟩
   by_cases e:j=k
   ·subst e;simpa using h
   ·exact h3 j (by omega) g2
def ky (p:Nat→Bool) (n:Nat):Nat→Nat→List (Nat×Nat)
 |0,_=> []
 |d+1,f=>if n≤f then [] else (if f<nxt p (n-f) f then [(f,nxt p (n-f) f)] else [])++ky p n d (nxt p (n-f) f+1)
def qf0 (p:Nat→Bool) (n:Nat):List (Nat×Nat):=ky p n (n+1) 0
theorem qhe (p:Nat→Bool) (n:Nat): ∀d f,(∀r∈ky p n d f,f≤r.1∧r.1<r.2∧r.2≤n∧ ∀k,r.1≤k→k<r.2→p k=false)∧(n-f<d→ ∀k,f≤k→k<n→p k=false→ ∃r∈ky p n d f,r.1≤k∧k<r.2):=by
 intro d
 induction d with
 |zero=>intro f;exact ⟨fun r hr=>absurd hr List.not_mem_nil,fun h=>absurd h (Nat.not_lt_zero _)⟩
 |succ d ih=>
  intro f
  unfold ky
  split
  ·rename_i h
   exact ⟨fun r hr=>absurd hr List.not_mem_nil,fun _ k h1 h2=>by omega⟩
  ·rename_i h
   obtain ⟨h1,h2,h3,h4⟩:=qdR p (n-f) f
   obtain ⟨i1,i2⟩:=ih (nxt p (n-f) f+1)
   obtain ⟨t,ht⟩: ∃t,t=nxt p (n-f) f:=⟨_,rfl⟩
   rw [←ht]at h1 h2 h3 h4 i1 i2 ⊢
   refine ⟨fun r hr=> ?_,fun hd k k1 k2 k3=> ?_⟩
   ·rcases List.mem_append.1 hr with hr|hr
    ·split at hr
     ·rename_i hft
      rw [List.mem_singleton]at hr
      subst hr
      exact ⟨Nat.le_refl _,hft,by simp only;omega,h3⟩
     ·cases hr
    ·obtain ⟨g1,g2⟩:=i1 r hr
     exact ⟨by omega,g2⟩
   ·by_cases hk:k<t
    ·refine ⟨(f,t),List.mem_append_left _ ?_,k1,hk⟩
     rw [if_pos (by omega)]
     exact List.mem_singleton.2 rfl
    ·have hne:k≠t:=fun e=>by
      subst e
      rw [h4 (by omega)]at k3
      cases k3
     obtain ⟨r,hr,g⟩:=i2 (by omega) k (by omega) k2 k3
     exact ⟨r,List.mem_append_right _ hr,g⟩
theorem qub {p:Nat→Bool} {n:Nat} {r:Nat×Nat} (hr:r∈qf0 p n):r.1<r.2∧r.2≤n∧ ∀k,r.1≤k→k<r.2→p k=false:=((qhe p n (n+1) 0).1 r hr).2
theorem qpR {p:Nat→Bool} {n k:Nat} (hk:k<n) (hp:p k=false): ∃r∈qf0 p n,r.1≤k∧k<r.2:=(qhe p n (n+1) 0).2 (by omega) k (Nat.zero_le _) hk hp
structure qCt (x:Co) (l:List Un):Prop where
 pw:l.Pairwise fun a b=>a.to<b.frm
 rg: ∀u∈l,0≤u.frm∧u.frm<u.to∧u.to≤x.col.length∧u.rds=qg7 x u.frm.toNat u.to.toNat
theorem quv {x:Co} {beh:Int} {u:Un}:unB x beh u=true↔beh<u.frm∧0≤u.frm∧u.frm<u.to∧u.to≤x.col.length∧u.rds=qg7 x u.frm.toNat u.to.toNat:=by
 unfold unB
 simp only [Bool.not_eq_true',Bool.or_eq_false_iff,decide_eq_false_iff_not,Bool.not_eq_false',decide_eq_true_eq]
 constructor
 ·rintro ⟨h1,h2,h3,h4,h5⟩;exact ⟨by omega,by omega,by omega,by omega,h5⟩
 ·rintro ⟨h1,h2,h3,h4,h5⟩;exact ⟨by omega,by omega,by omega,by omega,h5⟩
theorem qaX {x:Co} {l:List Un} (h:qm6 x l=true):qCt x l:=by
 unfold qm6 at h
 rw [Bool.not_eq_true',qo]at h
 have h1: ∀i,i<l.length→beH l i<(l.getD i default).frm∧0≤(l.getD i default).frm∧(l.getD i default).frm<(l.getD i default).to∧(l.getD i default).to≤x.col.length∧(l.getD i default).rds=qg7 x (l.getD i default).frm.toNat (l.getD i default).to.toNat:=fun i hi=>
  quv.1 (by simpa using h i hi)
 have g: ∀i (hi:i<l.length),l.getD i default=l[i]:=fun i hi=>by rw [gdqA,zf hi];rfl
 refine ⟨List.pairwise_iff_getElem.2 fun i j hi hj hij=> ?_,fun u hu=> ?_⟩
 ·have key: ∀d,i+1+d<l.length→(l.getD i default).to<(l.getD (i+1+d) default).frm:=by
   intro d
   induction d with
   |zero=>
    intro hd
    have:=(h1 (i+1) hd).1
    unfold beH at this
    rw [if_neg (by omega),Nat.add_sub_cancel]at this
    exact this
   |succ d ih=>
    intro hd
    have h2:=ih (by omega)
    have h3:=(h1 (i+1+d) (by omega)).2.2.1
    have h4:=(h1 (i+1+d+1) (by omega)).1
    unfold beH at h4
    rw [if_neg (by omega),Nat.add_sub_cancel]at h4
    rw [←Nat.add_assoc]
    omega
  have:=key (j-(i+1)) (by omega)
  rw [show i+1+(j-(i+1))=j by omega,g i hi,g j hj]at this
  exact this
 ·obtain ⟨i,hi,rfl⟩:=List.getElem_of_mem hu
  have:=(h1 i hi).2
  rw [g i hi]at this
  exact this
theorem qkG {l:List Un} {k:Nat}:cvB l k=true↔ ∃u∈l,u.frm≤k∧(k:Int)<u.to:=by
 unfold cvB
 rw [qG]
 constructor
 ·rintro ⟨i,hi,h⟩
  rw [gdqA,zf hi,Bool.and_eq_true,decide_eq_true_iff,decide_eq_true_iff]at h
  exact ⟨_,List.getElem_mem hi,h⟩
 ·rintro ⟨u,hu,h⟩
  obtain ⟨i,hi,rfl⟩:=List.getElem_of_mem hu
  refine ⟨i,hi,?_⟩
  rw [gdqA,zf hi,Bool.and_eq_true,decide_eq_true_iff,decide_eq_true_iff]
  exact h
def rnB (l:List Un) (r:Nat×Nat):Bool:=zd (fun i=>decide ((l.getD i default).frm≤r.1)&&decide ((r.2:Int)≤(l.getD i default).to)) l.length
theorem qmn {l:List Un} {r:Nat×Nat}:rnB l r=true↔ ∃u∈l,u.frm≤r.1∧(r.2:Int)≤u.to:=by
 unfold rnB
 rw [qG]
 constructor
 ·rintro ⟨i,hi,h⟩
  rw [gdqA,zf hi,Bool.and_eq_true,decide_eq_true_iff,decide_eq_true_iff]at h
  exact ⟨_,List.getElem_mem hi,h⟩
 ·rintro ⟨u,hu,h⟩
  obtain ⟨i,hi,rfl⟩:=List.getElem_of_mem hu
  refine ⟨i,hi,?_⟩
  rw [gdqA,zf hi,Bool.and_eq_true,decide_eq_true_iff,decide_eq_true_iff]
  exact h
theorem qo7 {α:Type} {L:List α} {R:α→α→Prop} (h:L.Pairwise R) {a b:α} (ha:a∈L) (hb:b∈L) (hne:a≠b):R a b∨R b a:=by
 induction L with
 |nil=>cases ha
 |cons c r ih=>
  obtain ⟨h1,h2⟩:=List.pairwise_cons.1 h
  rcases List.mem_cons.1 ha with ea|na
  ·rcases List.mem_cons.1 hb with eb|nb
   ·exact absurd (ea.trans eb.symm) hne
   ·rw [ea];exact .inl (h1 b nb)
  ·rcases List.mem_cons.1 hb with eb|nb
   ·rw [eb];exact .inr (h1 a na)
   ·exact ih h2 na nb
theorem qsO {x:Co} {l:List Un} (h:qm6 x l=true):((qf0 (cmB x) x.col.length).all (rnB l)=true)↔cvA x l=true:=by
 have ho:=qaX h
 unfold cvA
 rw [List.all_eq_true,Bool.not_eq_true',qo]
 constructor
 ·intro hr k hk
  cases hc:cmB x k with
  |true=>simp
  |false=>
   obtain ⟨r,hr1,r1,r2⟩:=qpR hk hc
   obtain ⟨u,hu,u1,u2⟩:=qmn.1 (hr r hr1)
   rw [qkG.2 ⟨u,hu,by omega,by omega⟩]
   rfl
 ·intro hk r hr
  obtain ⟨r1,r2,r3⟩:=qub hr
  have cov: ∀k,r.1≤k→k<r.2→ ∃u∈l,u.frm≤(k:Int)∧(k:Int)<u.to:=fun k h1 h2=>by
   have h3:=hk k (by omega)
   rw [r3 k h1 h2,Bool.not_false,Bool.and_true,Bool.not_eq_false']at h3
   exact qkG.1 h3
  obtain ⟨u,hu,u1,u2⟩:=cov r.1 (Nat.le_refl _) r1
  refine qmn.2 ⟨u,hu,u1,?_⟩
  by_cases ht:(r.2:Int)≤u.to
  ·exact ht
  ·exfalso
   have hur:=ho.rg u hu
   obtain ⟨k,hk2⟩: ∃k:Nat,u.to=(k:Int):=⟨u.to.toNat,by omega⟩
   obtain ⟨v,hv,v1,v2⟩:=cov k (by omega) (by omega)
   have hvr:=ho.rg v hv
   by_cases e:u=v
   ·subst e;omega
   ·rcases qo7 ho.pw hu hv e with h1|h1
    ·omega
    ·omega
def fnU (l:List Un) (c:Int):Int:=qad (fun i=>decide ((l.getD i default).frm≤c)&&decide (c<(l.getD i default).to)) l.length 0
theorem qgT {l:List Un} {c:Int} {k:Nat} (h:fnU l c=k):k<l.length∧(l.getD k default).frm≤c∧c<(l.getD k default).to:=by
 unfold fnU at h
 rcases zI (fun i=>decide ((l.getD i default).frm≤c)&&decide (c<(l.getD i default).to)) l.length with ⟨i,h1,h2,_,h4⟩|⟨_,h2⟩
 ·rw [h4]at h
  have e:i=k:=by omega
  subst e
  rw [Bool.and_eq_true,decide_eq_true_iff,decide_eq_true_iff]at h2
  exact ⟨h1,h2⟩
 ·rw [h2]at h;omega
theorem qrb {l:List Un} {c:Int} (h:fnU l c<0) {i:Nat} (hi:i<l.length): ¬((l.getD i default).frm≤c∧c<(l.getD i default).to):=by
 unfold fnU at h
 rcases zI (fun i=>decide ((l.getD i default).frm≤c)&&decide (c<(l.getD i default).to)) l.length with ⟨j,_,_,_,h4⟩|⟨h1,_⟩
 ·rw [h4]at h;omega
 ·have:=h1 i hi
  rw [Bool.and_eq_false_iff,decide_eq_false_iff_not,decide_eq_false_iff_not]at this
  omega
theorem qyp {x:Co} {l:List Un} (h:qm6 x l=true) {c:Int} {k:Nat} (hk:k<l.length) (h1:(l.getD k default).frm≤c) (h2:c<(l.getD k default).to):fnU l c=k:=by
 have ho:=qaX h
 rcases Int.lt_or_le (fnU l c) 0 with hn|hn
 ·exact absurd ⟨h1,h2⟩ (qrb hn hk)
 ·obtain ⟨j,hj⟩: ∃j:Nat,fnU l c=j:=⟨(fnU l c).toNat,by omega⟩
  obtain ⟨j1,j2,j3⟩:=qgT hj
  rw [hj]
  have g: ∀i (hi:i<l.length),l.getD i default=l[i]:=fun i hi=>by rw [gdqA,zf hi];rfl
  rw [g k hk]at h1 h2
  rw [g j j1]at j2 j3
  rcases Nat.lt_trichotomy j k with e|e|e
  ·have:=List.pairwise_iff_getElem.1 ho.pw j k j1 hk e;omega
  ·omega
  ·have:=List.pairwise_iff_getElem.1 ho.pw k j hk j1 e;omega
def wdE (x:Co) (l:List Un) (w bef:Wd) (first:Bool):Int:=
 if w.text= []∨64<w.text.length then 11 else if w.col<0∨(x.col.length:Int)≤w.col∨(first=false∧w.col<bef.col) then 19 else if w.unit< -1∨(l.length:Int)≤w.unit then 20 else
  if fnU l w.col≠w.unit then 20 else if w.dec< -1∨(w.unit<0∧w.dec≠ -1)∨(first=false∧0≤w.unit∧w.unit=bef.unit∧w.dec≠bef.dec) then 2 else 0
def qjf (b:List Wd) (i:Nat):Wd:=if i=0 then default else b.getD (i-1) default
def qnE (x:Co) (l:List Un) (b:List Wd) (i:Nat):Int:=wdE x l (b.getD i default) (qjf b i) (decide (i=0))
def cW (b:List Wd) (c:Int):Nat→Nat
 |0=>0
 |i+1=>cW b c i+if (b.getD i default).col=c then 1 else 0
def txA (x:Co) (c:Nat):Str:=((x.tok.getD 0 []).getD ((x.col.getD c []).getD 0 0).toNat default).text
def ccB (x:Co) (b:List Wd) (c:Nat):Bool:=decide (cW b c b.length=1)&&zd (fun i=>decide ((b.getD i default).col=c)&&decide ((b.getD i default).text=txA x c)) b.length
def qAt (x:Co) (l:List Un) (b:List Wd) (c:Nat):Int:=if 0≤fnU l c then 0 else if ccB x b c=true then 0 else 9
def pvE (x:Co) (l:List Un) (b:List Wd):Int:=
 if vaE x l≠0 then vaE x l else if qbp (qnE x l b) 0 b.length≠0 then qbp (qnE x l b) 0 b.length else qbp (qAt x l b) 0 x.col.length
structure qnG (x:Co) (l:List Un) (b:List Wd):Prop where
 co:coE x=0
 un:qm6 x l=true
 cv:cvA x l=true
 tx: ∀i,i<b.length→(b.getD i default).text≠ []∧(b.getD i default).text.length≤64
 cl: ∀i,i<b.length→0≤(b.getD i default).col∧(b.getD i default).col<x.col.length
 ord: ∀i,i+1<b.length→(b.getD i default).col≤(b.getD (i+1) default).col
 un2: ∀i,i<b.length→fnU l (b.getD i default).col=(b.getD i default).unit
 cc: ∀c,c<x.col.length→fnU l c<0→ccB x b c=true
theorem qrv {x:Co} {l:List Un} {b:List Wd} (h:pvE x l b=0):qnG x l b:=by
 unfold pvE at h
 split at h
 ·rename_i h1;exact absurd h h1
 rename_i h1
 have h1:=Classical.not_not.1 h1
 split at h
 ·rename_i h2;exact absurd h h2
 rename_i h2
 have h2:=jk.1 (Classical.not_not.1 h2)
 have h3:=jk.1 h
 unfold vaE at h1
 split at h1
 ·cases h1
 rename_i g1
 split at h1
 ·cases h1
 rename_i g2
 have g2:rgB x l=true:=by simpa using g2
 unfold rgB at g2
 rw [Bool.and_eq_true]at g2
 have hw: ∀i,i<b.length→((b.getD i default).text≠ []∧(b.getD i default).text.length≤64)∧(0≤(b.getD i default).col∧(b.getD i default).col<x.col.length)∧(0<i→(qjf b i).col≤(b.getD i default).col)∧fnU l (b.getD i default).col=(b.getD i default).unit:=fun i hi=>by
  have:=h2 i hi
  unfold qnE wdE at this
  split at this
  ·cases this
  rename_i k1
  split at this
  ·cases this
  rename_i k2
  split at this
  ·cases this
  split at this
  ·cases this
  rename_i k4
  refine ⟨⟨fun e=>k1 (.inl e),Nat.le_of_not_lt fun e=>k1 (.inr e)⟩,⟨by omega,by omega⟩,fun h0=> ?_,Classical.not_not.1 k4⟩
  refine Int.not_lt.1 fun hc=>k2 (.inr (.inr ⟨decide_eq_false (by omega),hc⟩))
 refine ⟨Classical.not_not.1 g1,g2.1,g2.2,fun i hi=>(hw i hi).1,fun i hi=>(hw i hi).2.1,fun i hi=> ?_,fun i hi=>(hw i hi).2.2.2,fun c hc hn=> ?_⟩
 ·have:=(hw (i+1) hi).2.2.1 (by omega)
  unfold qjf at this
  rw [if_neg (by omega),Nat.add_sub_cancel]at this
  exact this
 ·have:=h3 c hc
  unfold qAt at this
  rw [if_neg (by omega)]at this
  split at this
  ·assumption
  ·cases this
def cP (p:Nat→Bool):Nat→Nat
 |0=>0
 |i+1=>cP p i+if p i=true then 1 else 0
theorem qn3 (p:Nat→Bool): ∀n,cP p n≤n:=by
 intro n
 induction n with
 |zero=>exact Nat.le_refl _
 |succ n ih=>unfold cP;split<;>omega
theorem qwE {p:Nat→Bool}: ∀ {n:Nat},(∀i,i<n→p i=true)→cP p n=n:=by
 intro n
 induction n with
 |zero=>intro _;rfl
 |succ n ih=>intro h;unfold cP;rw [ih fun i hi=>h i (by omega),if_pos (h n (by omega))]
theorem qwG {p:Nat→Bool}: ∀ {n:Nat},(∀i,i+1<n→p (i+1)=true→p i=true)→ ∀i,i<n→(p i=true↔i<cP p n):=by
 intro n
 induction n with
 |zero=>intro _ i h;exact absurd h (Nat.not_lt_zero i)
 |succ n ih=>
  intro hm i hi
  have h0:=ih fun j hj=>hm j (by omega)
  unfold cP
  cases hn:p n with
  |true=>
   rw [if_pos rfl]
   have hall: ∀d,d≤n→p (n-d)=true:=by
    intro d
    induction d with
    |zero=>intro _;exact hn
    |succ d ihd=>
     intro hd
     refine hm (n-(d+1)) (by omega) ?_
     rw [show n-(d+1)+1=n-d by omega]
     exact ihd (by omega)
   have hp: ∀j,j≤n→p j=true:=fun j hj=>by
    have:=hall (n-j) (by omega)
    rwa [show n-(n-j)=j by omega]at this
   rw [qwE fun j hj=>hp j (by omega),hp i (by omega)]
   exact ⟨fun _=>by omega,fun _=>rfl⟩
  |false=>
   rw [if_neg (by simp),Nat.add_zero]
   by_cases e:i=n
   ·subst e
    have:=qn3 p i
    rw [hn]
    exact ⟨fun h=>absurd h (by simp),fun h=>by omega⟩
   ·exact h0 i (by omega)
theorem qwF {q:Nat→Bool} {F G:Nat} (hFG:F≤G): ∀ {n:Nat},(∀i,i<n→(q i=true↔F≤i∧i<G))→cP q n=min n G-min n F:=by
 intro n
 induction n with
 |zero=>intro _;simp [cP]
 |succ n ih=>
  intro h
  unfold cP
  rw [ih fun i hi=>h i (by omega)]
  have hn:=h n (by omega)
  split
  ·rename_i hq
   have:=hn.1 hq
   omega
  ·rename_i hq
   have: ¬(F≤n∧n<G):=fun hc=>hq (hn.2 hc)
   omega
theorem qtm {q:Nat→Bool} {F G n:Nat} (hGn:G≤n) (h: ∀i,i<n→(q i=true↔F≤i∧i<G)):qad q n 0=if F<G then (F:Int) else-1:=by
 split
 ·rename_i hl
  exact kR (by omega) (fun j hj=>by
   cases hq:q j with
   |false=>rfl
   |true=>have:=(h j (by omega)).1 hq;omega) ((h F (by omega)).2 ⟨Nat.le_refl _,hl⟩)
 ·rename_i hl
  refine qan fun j hj=> ?_
  cases hq:q j with
  |false=>rfl
  |true=>have:=(h j hj).1 hq;omega
def qfw (q:Nat→Bool) (n f:Nat):Nat:=nxt (fun i=> !q i) (n-f) f
theorem qj2 (q:Nat→Bool) {n f:Nat} (hf:f≤n):f≤qfw q n f∧qfw q n f≤n∧(∀j,f≤j→j<qfw q n f→q j=true)∧(qfw q n f<n→q (qfw q n f)=false):=by
 obtain ⟨h1,h2,h3,h4⟩:=qdR (fun i=> !q i) (n-f) f
 refine ⟨h1,by unfold qfw;omega,fun j g1 g2=>by simpa using h3 j g1 g2,fun g=> ?_⟩
 have:=h4 (by unfold qfw at g;omega)
 simpa [qfw] using this
def qvm (q:Nat→Bool) (n f:Nat):Bool:=zd (fun i=>decide (qfw q n f≤i)&&q i) n
def qmM (q:Nat→Bool) (n:Nat):Int:=if qad q n 0<0 then 6 else if qvm q n (qad q n 0).toNat=true then 10 else 0
def qzs (q:Nat→Bool) (n:Nat):Int:=if qmM q n=0 then qad q n 0 else 0
def qzt (q:Nat→Bool) (n:Nat):Int:=if qmM q n=0 then (qfw q n (qad q n 0).toNat:Int) else 0
def inU (b:List Wd) (k:Int) (i:Nat):Bool:=decide ((b.getD i default).unit=k)
def bfU (b:List Wd) (c:Int) (i:Nat):Bool:=decide ((b.getD i default).col<c)
theorem qhg {x:Co} {l:List Un} {b:List Wd} (h:qnG x l b) {k:Nat} (hk:k<l.length):
  ∃F G,F≤G∧G≤b.length∧(∀i,i<b.length→(bfU b (l.getD k default).frm i=true↔i<F))∧(∀i,i<b.length→(inU b k i=true↔F≤i∧i<G))∧cP (bfU b (l.getD k default).frm) b.length=F∧cP (inU b k) b.length=G-F:=by
 obtain ⟨u,hu⟩: ∃u,u=l.getD k default:=⟨_,rfl⟩
 have hur:=(qaX h.un).rg u (by rw [hu,gdqA,zf hk];exact List.getElem_mem hk)
 have hpre: ∀c,∀i,i<b.length→(bfU b c i=true↔i<cP (bfU b c) b.length):=fun c=>qwG fun i hi hp=>by
  have:=h.ord i hi
  unfold bfU at hp ⊢
  rw [decide_eq_true_iff]at hp ⊢
  omega
 have h1:=hpre u.frm
 have h2:=hpre u.to
 have hq: ∀i,i<b.length→(inU b k i=true↔cP (bfU b u.frm) b.length≤i∧i<cP (bfU b u.to) b.length):=fun i hi=>by
  have g1:=h1 i hi
  have g2:=h2 i hi
  unfold bfU at g1 g2
  rw [decide_eq_true_iff]at g1 g2
  unfold inU
  rw [decide_eq_true_iff]
  constructor
  ·intro e
   obtain ⟨_,k2,k3⟩:=qgT (show fnU l (b.getD i default).col=k by rw [h.un2 i hi,e])
   rw [←hu]at k2 k3
   exact ⟨Nat.le_of_not_lt fun hc=>absurd (g1.2 hc) (by omega),g2.1 k3⟩
  ·rintro ⟨e1,e2⟩
   have k2:u.frm≤(b.getD i default).col:=Int.not_lt.1 fun hc=>by have:=g1.1 hc;exact absurd this (Nat.not_lt.2 e1)
   have k3:=g2.2 e2
   rw [←h.un2 i hi]
   exact qyp h.un hk (by rw [←hu];exact k2) (by rw [←hu];exact k3)
 have hle:cP (bfU b u.frm) b.length≤cP (bfU b u.to) b.length:=by
  rcases Nat.lt_or_ge (cP (bfU b u.to) b.length) (cP (bfU b u.frm) b.length)with hlt|hge
  ·have hi:cP (bfU b u.to) b.length<b.length:=by have:=qn3 (bfU b u.frm) b.length;omega
   have g1:=(h1 _ hi).2 hlt
   have g2: ¬_:=fun hc=>absurd ((h2 _ hi).1 hc) (Nat.lt_irrefl _)
   unfold bfU at g1 g2
   rw [decide_eq_true_iff]at g1 g2
   omega
  ·exact hge
 have hGn:=qn3 (bfU b u.to) b.length
 refine ⟨cP (bfU b u.frm) b.length,cP (bfU b u.to) b.length,hle,hGn,by rw [←hu];exact h1,hq,by rw [←hu],?_⟩
 rw [qwF hle hq]
 omega
structure Va where
 words:List Str
 sigla:List Str
 deriving Inhabited
structure En where
 layer:Int
 frm:Int
 to:Int
 pos:Bool
 sup:List Str
 vars:List Va
 deriving Inhabited
def vaC (v:Va):List AV:= [strs v.words,strs v.sigla]
def zX (vs:List Va):AV:= .sl vs.length fun i=>vaC (vs.getD i default)
def enC (e:En):List AV:= [.int .i64 e.layer,.int .i64 e.frm,.int .i64 e.to,.bool e.pos,strs e.sup,zX e.vars]
def qaC (l:List En):AV:= .sl l.length fun i=>enC (l.getD i default)
theorem qk6 (L:List Va):(zX L).flag=true:=rfl
theorem qiN (L:List Va):(zX L).strip=zX L:=rfl
theorem qoU {fz:Nat→Bool} {h:List AObj} {n:Nat} (L:List Va):frz fz h (n+1) (zX L)=zX L:=rfl
theorem qpL {fz:Nat→Bool} {h:List AObj} {n:Nat} (L:List Va):rei fz h (n+1) (zX L)=zX L:=rfl
theorem qk2 (L:List En):(qaC L).flag=true:=rfl
theorem qiJ (L:List En):(qaC L).strip=qaC L:=rfl
theorem qoR {fz:Nat→Bool} {h:List AObj} {n:Nat} (L:List En):frz fz h (n+1) (qaC L)=qaC L:=rfl
theorem qpI {fz:Nat→Bool} {h:List AObj} {n:Nat} (L:List En):rei fz h (n+1) (qaC L)=qaC L:=rfl
attribute [go_sem] qk6 qiN qoU qpL qk2 qiJ qoR qpI
theorem qxb (ws:List Str) (m:Nat) (k:Nat→Str) (h:List AObj) (h1:ws.length≤1000000000) (h2:m≤1000000000):
  ACalls Tryz.prog 53 [strs ws,.sl m (fun j=> [.str (k j)])] h (.bool (decide (ws.length=m∧ ∀i,i<ws.length→ws.getD i []=k i))) h:=by
 unfold strs
 have:=qB8 qAM ws.length m (fun j=> .s (ws.getD j [])) (fun j=> .s (k j)) h (fun _ _ _=>rfl) (by omega) (by omega)
 simpa only [At.v,At.s.injEq] using this
theorem quc (ws:List Str) (m:Nat) (k:Nat→Str) (h:List AObj) (h1:ws.length≤1000000000) (h2:m≤1000000000):
  ACalls Tryz.prog 139 [strs ws,.sl m (fun j=> [.str (k j)])] h (.bool (decide (ws.length=m∧ ∀i,i<ws.length→ws.getD i []=k i))) h:=by
 have c22:=fun h=>qxb ws m k h h1 h2
 refine acO qxp ?_
 simp (disch:=omega) only [qvR,go_sem]
 repeat' first
  |((first|refine cA (c22 _) ?_ ?_|refine cG (fun e=>c22 _) ?_ ?_|refine cU (fun _=>c22 _) ?_ ?_);exact flk;simp (disch:=omega) only [go_sem])
  |((first|apply qd|apply qb);exact rvk;simp only [go_sem];first|exact ql|apply qe|apply qa|apply qf|skip)
  |with_reducible first|intro _|apply aiA
 all_goals try exact clz
theorem jb {α:Type} [Inhabited α] {a b:List α} (d:α):a=b↔a.length=b.length∧ ∀i,i<a.length→a.getD i d=b.getD i d:=by
 constructor
 ·rintro rfl;exact ⟨rfl,fun _ _=>rfl⟩
 ·rintro ⟨h1,h2⟩
  apply List.ext_getElem h1
  intro i h3 h4
  have:=h2 i h3
  rw [gdqA,gdqA,zf h3,zf h4]at this
  exact this
def qaW (t:List Str) (f g:Nat):List Str:=(t.drop f).take (g-f)
theorem qd6 {t:List Str} {f g:Nat} (h1:f≤g) (h2:g≤t.length):(qaW t f g).length=g-f:=by unfold qaW;simp;omega
theorem qhi {t:List Str} {f g i:Nat} (h1:f≤g) (h2:g≤t.length) (hi:i<g-f):(qaW t f g).getD i []=t.getD (f+i) []:=by
 unfold qaW
 rw [gdqA,List.getElem?_take,if_pos hi,List.getElem?_drop,←gdqA]
theorem qpS {ws t:List Str} {f g:Nat} (h1:f≤g) (h2:g≤t.length):decide (ws.length=g-f∧ ∀i,i<ws.length→ws.getD i []=t.getD (f+i) [])=decide (ws=qaW t f g):=by
 refine decide_eq_decide.2 ?_
 rw [jb (b:=qaW t f g) ([]:Str),qd6 h1 h2]
 constructor
 ·rintro ⟨p,q⟩;exact ⟨p,fun i hi=>by rw [q i hi,qhi h1 h2 (by omega)]⟩
 ·rintro ⟨p,q⟩;exact ⟨p,fun i hi=>by rw [q i hi,qhi h1 h2 (by omega)]⟩
theorem qCH (x:Va) (y:List Str) (c:AV) (h:List AObj) (h1:y.length≤1000000000) (h2:x.words.length≤1000000000):ACalls Tryz.prog 140 [.agg (vaC x),.ip [strs y,c]] h (.bool (decide (y=x.words))) h:=by
 have c117:=fun h=>quc y x.words.length (fun j=>x.words.getD j []) h h1 h2
 have e:decide (y.length=x.words.length∧ ∀i,i<y.length→y.getD i []=x.words.getD i [])=decide (y=x.words):=decide_eq_decide.2 (jb ([]:Str)).symm
 rw [e]at c117
 have e2:AV.sl x.words.length (fun j=> [AV.str (x.words.getD j [])])=strs x.words:=rfl
 rw [e2]at c117
 refine acO qxq ?_
 simp (disch:=omega) only [qvS,vaC,go_sem]
 repeat' first
  |((first|refine cA (c117 _) ?_ ?_|refine cG (fun e=>c117 _) ?_ ?_|refine cU (fun _=>c117 _) ?_ ?_);exact flk;simp (disch:=omega) only [vaC,go_sem])
  |((first|apply qd|apply qb);exact rvk;simp only [go_sem];first|exact ql|apply qe|apply qa|apply qf|skip)
  |with_reducible first|intro _|apply aiA
 all_goals try exact clz
theorem qCD (n:Nat) (vs:List Va) (y:List Str) (k v:Nat) (c:AV) (h:List AObj) (hk:getO k h=some (.mem v 85 [strs y,c])) (hn:n≤vs.length) (hl:vs.length≤1000000000) (h1:y.length≤1000000000) (h2: ∀i,(vs.getD i default).words.length≤1000000000):
  ACalls Tryz.prog 56 [.sl n (fun j=>vaC (vs.getD j default)),.fn (.func 140) [] [.op k v 0]] h (.bool (zd (fun j=>decide (y=(vs.getD j default).words)) n)) h:=by
 have hc:=qX hk
 refine qhK qAO ⟨rfl,rfl⟩ ⟨rfl,rfl⟩ (qaD qxm n (fun j=>vaC (vs.getD j default)) (fun j=> .agg (vaC (vs.getD j default))) _ [] [.op k v 0] _ h (fun i _=>⟨rfl,by simp [zZ,vaC],rfl,rfl,rfl⟩) (fun i _=> ?_) (by omega))
 refine ACalls.borrow ?_ rfl
 have e:([AV.agg (vaC (vs.getD i default))]++ [AV.op k v 0]).map (rei (fun _=>true) h 8)= [.agg (vaC (vs.getD i default)),.ip [strs y,rei (fun _=>true) h 7 c]]:=by
  simp only [List.cons_append,List.nil_append,List.map_cons,List.map_nil,rei_op,if_true,hc,ipOf_some,List.drop_zero,rei_agg]
  rfl
 rw [List.nil_append,e]
 exact qCH _ y _ _ h1 (h2 i)
def qfj (t:List Str) (e:En) (i:Nat):Int:=
 if jg (e.vars.getD i default).words≠0 then 11 else if (e.vars.getD i default).words=qaW t e.frm.toNat e.to.toNat then 9 else
  if zd (fun j=>decide ((e.vars.getD i default).words=(e.vars.getD j default).words)) i=true then 7 else if (e.vars.getD i default).sigla.length=0 then 5 else 0
def cnt (names:List Str) (gs:List Gr) (e:En):Nat→List Int
 |0=>qcW (List.replicate 32 0) (ju names gs e.sup)
 |i+1=>qcW (cnt names gs e i) (ju names gs (e.vars.getD i default).sigla)
def qqn (C:List Int):Bool:=zd (fun i=>decide (1<C.getD i 0)) C.length
def qpQ (t:List Str) (e:En):Prop:=e.layer<0∨16≤e.layer∨e.frm<0∨e.to<e.frm∨(t.length:Int)<e.to
instance (t:List Str) (e:En):Decidable (qpQ t e):=by unfold qpQ;infer_instance
def qqI (names:List Str) (gs:List Gr) (t:List Str) (e:En):Int:=
 if sgE names gs≠0 then 1 else if 4096<t.length then 4 else if jg t≠0 then 11 else if qpQ t e then 2 else
  if 0<e.sup.length∧e.pos=false then 1 else if e.vars.length=0 then 5 else
   if qbp (qfj t e) 0 e.vars.length≠0 then qbp (qfj t e) 0 e.vars.length else
    if qaY names gs e.sup≠0 then qaY names gs e.sup else
     if qbp (fun i=>qaY names gs (e.vars.getD i default).sigla) 0 e.vars.length≠0 then qbp (fun i=>qaY names gs (e.vars.getD i default).sigla) 0 e.vars.length else
      if qqn (cnt names gs e e.vars.length)=true then 17 else 0
structure TSz (t:List Str):Prop where
 n:t.length≤1000000000
 s: ∀j,(t.getD j []).length≤1000000000
structure ESz (e:En):Prop where
 sup:e.sup.length≤1000000000
 vs:e.vars.length≤1000000000
 w: ∀i,TSz (e.vars.getD i default).words
 sg: ∀i,(e.vars.getD i default).sigla.length≤1000000000
theorem qkE (names:List Str) (gs:List Gr) (e:En): ∀i,(cnt names gs e i).length=32:=by
 intro i
 induction i with
 |zero=>unfold cnt;rw [qce];simp
 |succ i ih=>unfold cnt;rw [qce,ih]
theorem qsC (names:List Str) (gs:List Gr) (e:En): ∀i j:Nat,0≤(cnt names gs e i).getD j 0∧(cnt names gs e i).getD j 0≤64*((i:Int)+1):=by
 intro i
 induction i with
 |zero=>
  intro j
  unfold cnt
  have:=qdB (C:=List.replicate 32 0) (L:=ju names gs e.sup) (B:=0) (fun i=>by
   rw [gdqA,List.getElem?_replicate]
   split<;>simp) _ (Nat.le_refl _) j
  rw [List.take_length]at this
  have h2:= @qdI names gs e.sup
  omega
 |succ i ih=>
  intro j
  unfold cnt
  have:=qdB (C:=cnt names gs e i) (L:=ju names gs (e.vars.getD i default).sigla) (B:=64*((i:Int)+1)) ih _ (Nat.le_refl _) j
  rw [List.take_length]at this
  have h2:= @qdI names gs (e.vars.getD i default).sigla
  omega
theorem _root_.AF.Wk.kill3 {t:List AV} {h l:List AObj} {a b c:AObj} {v:Nat} {ty:TypeId} {cs:List AV}:Wk t (h++a::b::c:: .mem v ty cs::l) t (h++a::b::c:: .emp (v+1)::l):=by
 have:=Wk.kill0 (t:=t) (h:=h++ [a,b,c]) (l:=l) (v:=v) (ty:=ty) (cs:=cs)
 simpa using this
theorem qCG (names:List Str) (gs:List Gr) (t:List Str) (e:En) (h:List AObj) (hz:Szs names gs) (ht:TSz t) (he:ESz e) (hp:kY SG h):
  ACalls Tryz.prog 65 [strs names,qF gs,strs t,.agg (enC e)] h (.int .i64 (qqI names gs t e)) h:=by
 have c59:=fun h=>sgP names gs h hz
 have cw:=fun l=>qCq t (h++l) ht.n ht.s (hp.app l)
 have t1:=ht.n
 obtain ⟨R,hR⟩: ∃R,R=qqI names gs t e:=⟨_,rfl⟩
 rw [←hR]
 unfold qqI at hR
 obtain ⟨s,hs⟩: ∃s,s=sgE names gs:=⟨_,rfl⟩
 rw [←hs]at c59 hR
 obtain ⟨w,hw⟩: ∃w,w=jg t:=⟨_,rfl⟩
 rw [←hw]at cw hR
 by_cases g0:s≠0
 ·have k0:(s=0)=False:=eq_false g0
  rw [if_pos g0]at hR
  rw [hR]
  refine acO qb7 ?_
  simp (disch:=omega) only [qhz,enC,go_sem]
  repeat' first
   |((first|refine cA (c59 _) ?_ ?_|refine cG (fun e=>c59 _) ?_ ?_|refine cU (fun _=>c59 _) ?_ ?_);exact flk;simp (disch:=omega) only [k0,go_sem])
   |((first|apply qd|apply qb);exact rvk;simp only [go_sem];first|exact ql|apply qe|apply qa|apply qf|skip)
   |with_reducible first|intro _|apply aiA
  all_goals try exact clz
 have g0:s=0:=Classical.not_not.1 g0
 have k0:(s=0)=True:=eq_true g0
 rw [if_neg (fun hc=>hc g0)]at hR
 by_cases g1:4096<t.length
 ·have k1:((4096:Int)<t.length)=True:=eq_true (by omega)
  rw [if_pos g1]at hR
  rw [hR]
  refine acO qb7 ?_
  simp (disch:=omega) only [qhz,enC,strs,go_sem]
  unfold strs at c59
  repeat' first
   |((first|refine cA (c59 _) ?_ ?_|refine cG (fun e=>c59 _) ?_ ?_|refine cU (fun _=>c59 _) ?_ ?_);exact flk;simp (disch:=omega) only [k0,k1,strs,go_sem])
   |((first|apply qd|apply qb);exact rvk;simp only [go_sem];first|exact ql|apply qe|apply qa|apply qf|skip)
   |with_reducible first|intro _|apply aiA
  all_goals try exact clz
 have k1:((4096:Int)<t.length)=False:=eq_false (by omega)
 rw [if_neg g1]at hR
 unfold strs at c59 cw
 by_cases g2:w≠0
 ·have k2:(w=0)=False:=eq_false g2
  rw [if_pos g2]at hR
  rw [hR]
  refine acO qb7 ?_
  simp (disch:=omega) only [qhz,enC,strs,go_sem]
  repeat' first
   |((first|refine cA (c59 _) ?_ ?_|refine cG (fun e=>c59 _) ?_ ?_|refine cA (cw _) ?_ ?_|refine cG (fun e=>cw _) ?_ ?_|refine cU (fun _=>c59 _) ?_ ?_|refine cU (fun _=>cw _) ?_ ?_);exact flk;simp (disch:=omega) only [k0,k1,k2,strs,go_sem])
   |((first|apply qd|apply qb);exact rvk;simp only [go_sem];first|exact ql|apply qe|apply qa|apply qf|skip)
   |with_reducible first|intro _|apply aiA
  all_goals try exact clz
 have g2:w=0:=Classical.not_not.1 g2
 have k2:(w=0)=True:=eq_true g2
 rw [if_neg (fun hc=>hc g2)]at hR
 by_cases g3:qpQ t e
 ·rw [if_pos g3]at hR
  rw [hR]
  by_cases a1:e.layer<0
  ·have q1:(e.layer<0)=True:=eq_true a1
   refine acO qb7 ?_
   simp (disch:=omega) only [qhz,enC,strs,go_sem]
   repeat' first
    |((first|refine cA (c59 _) ?_ ?_|refine cG (fun e=>c59 _) ?_ ?_|refine cA (cw _) ?_ ?_|refine cG (fun e=>cw _) ?_ ?_|refine cU (fun _=>c59 _) ?_ ?_|refine cU (fun _=>cw _) ?_ ?_);exact flk;simp (disch:=omega) only [k0,k1,k2,strs,q1,go_sem])
    |((first|apply qd|apply qb);exact rvk;simp only [go_sem];first|exact ql|apply qe|apply qa|apply qf|skip)
    |with_reducible first|intro _|apply aiA
   all_goals try exact clz
  have q1:(e.layer<0)=False:=eq_false a1
  by_cases a2:16≤e.layer
  ·have q2:(16≤e.layer)=True:=eq_true a2
   refine acO qb7 ?_
   simp (disch:=omega) only [qhz,enC,strs,go_sem]
   repeat' first
    |((first|refine cA (c59 _) ?_ ?_|refine cG (fun e=>c59 _) ?_ ?_|refine cA (cw _) ?_ ?_|refine cG (fun e=>cw _) ?_ ?_|refine cU (fun _=>c59 _) ?_ ?_|refine cU (fun _=>cw _) ?_ ?_);exact flk;simp (disch:=omega) only [k0,k1,k2,strs,q1,q2,go_sem])
    |((first|apply qd|apply qb);exact rvk;simp only [go_sem];first|exact ql|apply qe|apply qa|apply qf|skip)
    |with_reducible first|intro _|apply aiA
   all_goals try exact clz
  have q2:(16≤e.layer)=False:=eq_false a2
  by_cases a3:e.frm<0
  ·have q3:(e.frm<0)=True:=eq_true a3
   refine acO qb7 ?_
   simp (disch:=omega) only [qhz,enC,strs,go_sem]
   repeat' first
    |((first|refine cA (c59 _) ?_ ?_|refine cG (fun e=>c59 _) ?_ ?_|refine cA (cw _) ?_ ?_|refine cG (fun e=>cw _) ?_ ?_|refine cU (fun _=>c59 _) ?_ ?_|refine cU (fun _=>cw _) ?_ ?_);exact flk;simp (disch:=omega) only [k0,k1,k2,strs,q1,q2,q3,go_sem])
    |((first|apply qd|apply qb);exact rvk;simp only [go_sem];first|exact ql|apply qe|apply qa|apply qf|skip)
    |with_reducible first|intro _|apply aiA
   all_goals try exact clz
  have q3:(e.frm<0)=False:=eq_false a3
  by_cases a4:e.to<e.frm
  ·have q4:(e.to<e.frm)=True:=eq_true a4
   refine acO qb7 ?_
   simp (disch:=omega) only [qhz,enC,strs,go_sem]
   repeat' first
    |((first|refine cA (c59 _) ?_ ?_|refine cG (fun e=>c59 _) ?_ ?_|refine cA (cw _) ?_ ?_|refine cG (fun e=>cw _) ?_ ?_|refine cU (fun _=>c59 _) ?_ ?_|refine cU (fun _=>cw _) ?_ ?_);exact flk;simp (disch:=omega) only [k0,k1,k2,strs,q1,q2,q3,q4,go_sem])
    |((first|apply qd|apply qb);exact rvk;simp only [go_sem];first|exact ql|apply qe|apply qa|apply qf|skip)
    |with_reducible first|intro _|apply aiA
   all_goals try exact clz
  have q4:(e.to<e.frm)=False:=eq_false a4
  have q5:((t.length:Int)<e.to)=True:=eq_true (by unfold qpQ at g3;omega)
  refine acO qb7 ?_
  simp (disch:=omega) only [qhz,enC,strs,go_sem]
  repeat' first
   |((first|refine cA (c59 _) ?_ ?_|refine cG (fun e=>c59 _) ?_ ?_|refine cA (cw _) ?_ ?_|refine cG (fun e=>cw _) ?_ ?_|refine cU (fun _=>c59 _) ?_ ?_|refine cU (fun _=>cw _) ?_ ?_);exact flk;simp (disch:=omega) only [k0,k1,k2,strs,q1,q2,q3,q4,q5,go_sem])
   |((first|apply qd|apply qb);exact rvk;simp only [go_sem];first|exact ql|apply qe|apply qa|apply qf|skip)
   |with_reducible first|intro _|apply aiA
  all_goals try exact clz
 rw [if_neg g3]at hR
 unfold qpQ at g3
 have q1:(e.layer<0)=False:=eq_false (by omega)
 have q2:(16≤e.layer)=False:=eq_false (by omega)
 have q3:(e.frm<0)=False:=eq_false (by omega)
 have q4:(e.to<e.frm)=False:=eq_false (by omega)
 have q5:((t.length:Int)<e.to)=False:=eq_false (by omega)
 by_cases g4:0<e.sup.length∧e.pos=false
 ·have q6:((0:Int)<e.sup.length)=True:=eq_true (by omega)
  have q7:=g4.2
  rw [if_pos g4]at hR
  rw [hR]
  refine acO qb7 ?_
  simp (disch:=omega) only [qhz,enC,strs,q7,go_sem]
  repeat' first
   |((first|refine cA (c59 _) ?_ ?_|refine cG (fun e=>c59 _) ?_ ?_|refine cA (cw _) ?_ ?_|refine cG (fun e=>cw _) ?_ ?_|refine cU (fun _=>c59 _) ?_ ?_|refine cU (fun _=>cw _) ?_ ?_);exact flk;simp (disch:=omega) only [k0,k1,k2,strs,q1,q2,q3,q4,q5,q6,q7,go_sem])
   |((first|apply qd|apply qb);exact rvk;simp only [go_sem];first|exact ql|apply qe|apply qa|apply qf|skip)
   |with_reducible first|intro _|apply aiA
  all_goals try exact clz
 rw [if_neg g4]at hR
 by_cases g5:e.vars.length=0
 ·have q8:((e.vars.length:Int)=0)=True:=eq_true (by omega)
  rw [if_pos g5]at hR
  rw [hR]
  by_cases g6:0<e.sup.length
  ·have q6:((0:Int)<e.sup.length)=True:=eq_true (by omega)
   have q7:e.pos=true:=by
    cases hq:e.pos with
    |true=>rfl
    |false=>exact absurd ⟨g6,hq⟩ g4
   refine acO qb7 ?_
   simp (disch:=omega) only [qhz,enC,strs,zX,q7,go_sem]
   repeat' first
    |((first|refine cA (c59 _) ?_ ?_|refine cG (fun e=>c59 _) ?_ ?_|refine cA (cw _) ?_ ?_|refine cG (fun e=>cw _) ?_ ?_|refine cU (fun _=>c59 _) ?_ ?_|refine cU (fun _=>cw _) ?_ ?_);exact flk;simp (disch:=omega) only [k0,k1,k2,strs,zX,q1,q2,q3,q4,q5,q6,q7,q8,go_sem])
    |((first|apply qd|apply qb);exact rvk;simp only [go_sem];first|exact ql|apply qe|apply qa|apply qf|skip)
    |with_reducible first|intro _|apply aiA
   all_goals try exact clz
  ·have q6:((0:Int)<e.sup.length)=False:=eq_false (by omega)
   refine acO qb7 ?_
   simp (disch:=omega) only [qhz,enC,strs,zX,go_sem]
   repeat' first
    |((first|refine cA (c59 _) ?_ ?_|refine cG (fun e=>c59 _) ?_ ?_|refine cA (cw _) ?_ ?_|refine cG (fun e=>cw _) ?_ ?_|refine cU (fun _=>c59 _) ?_ ?_|refine cU (fun _=>cw _) ?_ ?_);exact flk;simp (disch:=omega) only [k0,k1,k2,strs,zX,q1,q2,q3,q4,q5,q6,q8,go_sem])
    |((first|apply qd|apply qb);exact rvk;simp only [go_sem];first|exact ql|apply qe|apply qa|apply qf|skip)
    |with_reducible first|intro _|apply aiA
   all_goals try exact clz
 have q8:((e.vars.length:Int)=0)=False:=eq_false (by omega)
 rw [if_neg g5]at hR
 obtain ⟨C0,hC0⟩: ∃C0:List AV,C0= [.int .i64 e.layer,.int .i64 e.frm,.int .i64 e.to,.bool e.pos,strs e.sup,zX e.vars]:=⟨_,rfl⟩
 obtain ⟨fr,hfr⟩: ∃fr:Nat,e.frm=fr:=⟨e.frm.toNat,by omega⟩
 obtain ⟨tt,htt⟩: ∃tt:Nat,e.to=tt:=⟨e.to.toNat,by omega⟩
 obtain ⟨E1,hE1⟩: ∃E1:AObj,E1= .mem 1 58 [.int .i64 e.layer,.int .i64 e.frm,.int .i64 e.to,.bool e.pos,strs e.sup,zX e.vars]:=⟨_,rfl⟩
 refine acO qb7 ?_
 simp (disch:=omega) only [qhz,enC,strs,zX,go_sem]
 repeat' first
  |((first|refine cA (c59 _) ?_ ?_|refine cG (fun e=>c59 _) ?_ ?_|refine cA (cw _) ?_ ?_|refine cG (fun e=>cw _) ?_ ?_|refine cU (fun _=>c59 _) ?_ ?_|refine cU (fun _=>cw _) ?_ ?_);exact flk;simp (disch:=omega) only [k0,k1,k2,strs,zX,q1,q2,q3,q4,q5,q8,go_sem])
  |((first|apply qd|apply qb);exact rvk;simp only [go_sem];first|exact ql|apply qe|apply qa|apply qf|skip)
  |with_reducible first|intro _|apply aiA
 all_goals try exact clz
 ·rename_i hx;exact absurd ⟨by omega,hx.2⟩ g4
 refine qu (T:=fun i:Nat×Nat=>qT 134 [(0,strs names),(1,qF gs),(2,strs t),(7,.op h.length 1 0),(73,zX e.vars),(74,.int .i64 e.vars.length),(75,.int .i64 i.1)])
  (H:=fun i=>h++ [.mem 1 58 [.int .i64 e.layer,.int .i64 e.frm,.int .i64 e.to,.bool e.pos,strs e.sup,zX e.vars],.emp i.2,.emp 0,.emp 0])
  (inv:=fun i=>i.1≤e.vars.length∧ ∀j,j<i.1→qfj t e j=0) (m:=fun i=>e.vars.length-i.1) (0,0) ⟨Nat.zero_le _,fun j hj=>absurd hj (Nat.not_lt_zero j)⟩ (Wk.temps ?_) ?_
 ·(simp only [strs,zX,go_sem,qk,qh,qg,qj];try (repeat' first|(with_reducible apply aiA)|(apply qe;omega)|(apply qa;rfl)|exact ql))
 rintro ⟨i,v⟩ ⟨i1,i2⟩ K hK
 simp only at i1 i2 hK
 have z2:=he.vs
 by_cases hi:i<e.vars.length
 ·have r1:((i:Int)<e.vars.length)=True:=eq_true (by omega)
  have r2:((i:Int)≤e.vars.length)=True:=eq_true (by omega)
  have r3:(0≤(fr:Int))=True:=eq_true (by omega)
  have r4:((fr:Int)≤tt)=True:=eq_true (by omega)
  have r5:((tt:Int)≤t.length)=True:=eq_true (by omega)
  have hE:=zQ (f:=qfj t e) hi i2
  have hv:qfj t e i=if jg (e.vars.getD i default).words≠0 then 11 else if (e.vars.getD i default).words=qaW t e.frm.toNat e.to.toNat then 9 else
   if zd (fun j=>decide ((e.vars.getD i default).words=(e.vars.getD j default).words)) i=true then 7 else if (e.vars.getD i default).sigla.length=0 then 5 else 0:=rfl
  have zw:=he.w i
  have zs:=he.sg i
  have zv:=fun j=>(he.w j).n
  obtain ⟨x,hx⟩: ∃x,x=e.vars.getD i default:=⟨_,rfl⟩
  have ex:=hx.symm
  simp only [ex]at hv zw zs
  rw [hfr,htt,Int.toNat_natCast,Int.toNat_natCast]at hv
  have zn:=zw.n
  have c116:=fun l=>qCq x.words (h++l) zw.n zw.s (hp.app l)
  have c117:=fun h=>quc x.words (tt-fr) (fun j=>t.getD (fr+j) []) h zw.n (by omega)
  rw [qpS (by omega) (by omega)]at c117
  have c118:=qCD i e.vars x.words (h.length+1) (v+1) (strs x.sigla) (h++ [.mem 1 58 [.int .i64 e.layer,.int .i64 e.frm,.int .i64 e.to,.bool e.pos,strs e.sup,zX e.vars],.mem (v+1) 85 [strs x.words,strs x.sigla],.emp 0,.emp 0]) (by rw [getO_app];rfl) (by omega) z2 zw.n zv
  obtain ⟨u,hu⟩: ∃u,u=jg x.words:=⟨_,rfl⟩
  rw [←hu]at c116 hv
  unfold strs zX at c118
  unfold strs at c116 c117
  by_cases a1:u≠0
  ·have p1:(u=0)=False:=eq_false a1
   rw [if_pos a1]at hv
   have hE:=hE (by rw [hv];decide)
   rw [hE,hv,if_pos (by decide)]at hR
   rw [hR]
   simp (disch:=omega) only [strs,zX,vaC,r1,r2,ex,go_sem]
   repeat' first
    |((first|refine cA (c116 _) ?_ ?_|refine cG (fun e=>c116 _) ?_ ?_|refine cU (fun _=>c116 _) ?_ ?_);exact flk;simp (disch:=omega) only [strs,zX,vaC,r1,r2,ex,p1,go_sem])
    |((first|apply qd|apply qb);exact rvk;simp only [go_sem];first|exact ql|apply qe|apply qa|apply qf|skip)
    |with_reducible first|intro _|apply aiA
   all_goals try exact clz
  have a1:u=0:=Classical.not_not.1 a1
  have p1:(u=0)=True:=eq_true a1
  rw [if_neg (fun hc=>hc a1)]at hv
  by_cases a2:x.words=qaW t fr tt
  ·rw [decide_eq_true a2]at c117
   rw [if_pos a2]at hv
   have hE:=hE (by rw [hv];decide)
   rw [hE,hv,if_pos (by decide)]at hR
   rw [hR]
   simp (disch:=omega) only [strs,zX,vaC,r1,r2,ex,go_sem]
   repeat' first
    |((first|refine cA (c116 _) ?_ ?_|refine cG (fun e=>c116 _) ?_ ?_|refine cA (c117 _) ?_ ?_|refine cG (fun e=>c117 _) ?_ ?_|refine cU (fun _=>c116 _) ?_ ?_|refine cU (fun _=>c117 _) ?_ ?_);exact flk;simp (disch:=omega) only [strs,zX,vaC,r1,r2,ex,p1,hfr,htt,r3,r4,r5,go_sem])
    |((first|apply qd|apply qb);exact rvk;simp only [go_sem];first|exact ql|apply qe|apply qa|apply qf|skip)
    |with_reducible first|intro _|apply aiA
   all_goals try exact clz
  rw [decide_eq_false a2]at c117
  rw [if_neg a2]at hv
  cases a3:zd (fun j=>decide (x.words=(e.vars.getD j default).words)) i with
  |true=>
   rw [a3]at c118
   rw [if_pos a3]at hv
   have hE:=hE (by rw [hv];decide)
   rw [hE,hv,if_pos (by decide)]at hR
   rw [hR]
   simp only [hfr,htt]at c118
   simp (disch:=omega) only [strs,zX,vaC,r1,r2,ex,hfr,htt,go_sem]
   repeat' first
    |((first|refine cA (c116 _) ?_ ?_|refine cG (fun e=>c116 _) ?_ ?_|refine cA (c117 _) ?_ ?_|refine cG (fun e=>c117 _) ?_ ?_|refine cA (c118) ?_ ?_|refine cG (fun e=>c118) ?_ ?_|refine cU (fun _=>c116 _) ?_ ?_|refine cU (fun _=>c117 _) ?_ ?_);exact flk;simp (disch:=omega) only [strs,zX,vaC,r1,r2,ex,p1,hfr,htt,r3,r4,r5,Nat.sub_zero,Nat.zero_add,go_sem])
    |((first|apply qd|apply qb);exact rvk;simp only [go_sem];first|exact ql|apply qe|apply qa|apply qf|skip)
    |with_reducible first|intro _|apply aiA
   all_goals try exact clz
  |false=>
  rw [a3]at c118
  rw [if_neg (by rw [a3];simp)]at hv
  simp only [hfr,htt]at c118
  by_cases a4:x.sigla.length=0
  ·have p4:((x.sigla.length:Int)=0)=True:=eq_true (by omega)
   rw [if_pos a4]at hv
   have hE:=hE (by rw [hv];decide)
   rw [hE,hv,if_pos (by decide)]at hR
   rw [hR]
   simp (disch:=omega) only [strs,zX,vaC,r1,r2,ex,hfr,htt,go_sem]
   repeat' first
    |((first|refine cA (c116 _) ?_ ?_|refine cG (fun e=>c116 _) ?_ ?_|refine cA (c117 _) ?_ ?_|refine cG (fun e=>c117 _) ?_ ?_|refine cA (c118) ?_ ?_|refine cG (fun e=>c118) ?_ ?_|refine cU (fun _=>c116 _) ?_ ?_|refine cU (fun _=>c117 _) ?_ ?_);exact flk;simp (disch:=omega) only [strs,zX,vaC,r1,r2,ex,p1,p4,hfr,htt,r3,r4,r5,Nat.sub_zero,Nat.zero_add,go_sem])
    |((first|apply qd|apply qb);exact rvk;simp only [go_sem];first|exact ql|apply qe|apply qa|apply qf|skip)
    |with_reducible first|intro _|apply aiA
   all_goals try exact clz
  ·have p4:((x.sigla.length:Int)=0)=False:=eq_false (by omega)
   rw [if_neg a4]at hv
   simp (disch:=omega) only [strs,zX,vaC,r1,r2,ex,hfr,htt,go_sem]
   repeat' first
    |((first|refine cA (c116 _) ?_ ?_|refine cG (fun e=>c116 _) ?_ ?_|refine cA (c117 _) ?_ ?_|refine cG (fun e=>c117 _) ?_ ?_|refine cA (c118) ?_ ?_|refine cG (fun e=>c118) ?_ ?_|refine cU (fun _=>c116 _) ?_ ?_|refine cU (fun _=>c117 _) ?_ ?_);exact flk;simp (disch:=omega) only [strs,zX,vaC,r1,r2,ex,p1,p4,hfr,htt,r3,r4,r5,Nat.sub_zero,Nat.zero_add,go_sem])
    |((first|apply qd|apply qb);exact rvk;simp only [go_sem];first|exact ql|apply qe|apply qa|apply qf|skip)
    |with_reducible first|intro _|apply aiA
   all_goals try exact clz
   simp only [hfr,htt]at hK
   refine hK _ _ (i+1,v+1+1) ⟨hi,fun j hj=> ?_⟩ (by simp only;omega) (Wk.trans Wk.kill1 (Wk.temps ?_))
   ·by_cases e':j=i
    ·subst e';exact hv
    ·exact i2 j (by simp only at hj;omega)
   ·(simp only [strs,zX,go_sem,qk,qh,qg,qj];try (repeat' first|(with_reducible apply aiA)|(apply qe;omega)|(apply qa;rfl)|exact ql))
 have r1:((i:Int)<e.vars.length)=False:=eq_false (by omega)
 rw [if_neg (fun hc=>hc (qW (f:=qfj t e) (fun j hj=>i2 j (by omega))))]at hR
 simp (disch:=omega) only [strs,zX,r1,go_sem]
 repeat' first
  |((first|apply qd|apply qb);exact rvk;simp only [go_sem];first|exact ql|apply qe|apply qa|apply qf|skip)
  |with_reducible first|intro _|apply aiA
 all_goals try exact clz
 refine cE (qB5 names gs e.sup (List.replicate 32 0) (h.length+2) 1 174 _ hz he.sup (by rw [getO_app];rfl) (by simp) 0 (by decide) (fun i=>by
  rw [gdqA,List.getElem?_replicate]
  split<;>simp)) (by exact flk) ?_
 have c0:qcW (List.replicate 32 0) (ju names gs e.sup)=cnt names gs e 0:=rfl
 rw [c0]
 obtain ⟨y,hy⟩: ∃y,y=qaY names gs e.sup:=⟨_,rfl⟩
 rw [←hy]at hR ⊢
 by_cases b1:y≠0
 ·have p1:(y=0)=False:=eq_false b1
  rw [if_pos b1]at hR
  rw [hR]
  simp (disch:=omega) only [strs,zX,p1,go_sem]
  repeat' first
   |((first|apply qd|apply qb);exact rvk;simp only [go_sem];first|exact ql|apply qe|apply qa|apply qf|skip)
   |with_reducible first|intro _|apply aiA
  all_goals try exact clz
 have b1:y=0:=Classical.not_not.1 b1
 have p1:(y=0)=True:=eq_true b1
 rw [if_neg (fun hc=>hc b1)]at hR
 simp (disch:=omega) only [strs,zX,p1,go_sem]
 repeat' first
  |((first|apply qd|apply qb);exact rvk;simp only [go_sem];first|exact ql|apply qe|apply qa|apply qf|skip)
  |with_reducible first|intro _|apply aiA
 all_goals try exact clz
 refine qu (T:=fun i:Nat×Nat=>qT 134 [(0,strs names),(1,qF gs),(11,.op (h.length+2) 1 0),(117,zX e.vars),(118,.int .i64 e.vars.length),(119,.int .i64 i.1)])
  (H:=fun i=>h++ [.mem 1 58 [.int .i64 e.layer,.int .i64 e.frm,.int .i64 e.to,.bool e.pos,strs e.sup,zX e.vars],.emp v,.mem 1 174 (qH (cnt names gs e i.1)),.emp i.2])
  (inv:=fun i=>i.1≤e.vars.length∧ ∀j,j<i.1→qaY names gs (e.vars.getD j default).sigla=0) (m:=fun i=>e.vars.length-i.1) (0,0) ⟨Nat.zero_le _,fun j hj=>absurd hj (Nat.not_lt_zero j)⟩ (Wk.temps ?_) ?_
 ·(simp only [strs,zX,go_sem,qk,qh,qg,qj];try (repeat' first|(with_reducible apply aiA)|(apply qe;omega)|(apply qa;rfl)|exact ql))
 clear hK
 rintro ⟨n,w'⟩ ⟨n1,n2⟩ K hK
 simp only at n1 n2 hK
 by_cases hn:n<e.vars.length
 ·have r2:((n:Int)<e.vars.length)=True:=eq_true (by omega)
  have hE:=zQ (f:=fun i=>qaY names gs (e.vars.getD i default).sigla) hn n2
  have zs:=he.sg n
  have hcs:cnt names gs e (n+1)=qcW (cnt names gs e n) (ju names gs (e.vars.getD n default).sigla):=rfl
  have hbn:=qsC names gs e n
  have hln:=qkE names gs e n
  obtain ⟨D,hD⟩: ∃D,D=cnt names gs e n:=⟨_,rfl⟩
  have eD:=hD.symm
  rw [eD]at hcs hbn hln
  obtain ⟨x,hx⟩: ∃x,x=e.vars.getD n default:=⟨_,rfl⟩
  have ex:=hx.symm
  simp only [ex]at hE hcs zs
  simp (disch:=omega) only [strs,zX,vaC,r2,ex,eD,go_sem]
  repeat' first
   |((first|apply qd|apply qb);exact rvk;simp only [go_sem];first|exact ql|apply qe|apply qa|apply qf|skip)
   |with_reducible first|intro _|apply aiA
  all_goals try exact clz
  refine cE (qB5 names gs x.sigla D (h.length+2) 1 174 _ hz zs (by rw [getO_app];rfl) hln (64*((n:Int)+1)) (by omega) hbn) (by exact flk) ?_
  rw [←hcs]
  obtain ⟨q,hq⟩: ∃q,q=qaY names gs x.sigla:=⟨_,rfl⟩
  rw [←hq]at hE ⊢
  by_cases b2:q≠0
  ·have p2:(q=0)=False:=eq_false b2
   rw [hE b2,if_pos b2]at hR
   rw [hR]
   simp (disch:=omega) only [strs,zX,p2,go_sem]
   repeat' first
    |((first|apply qd|apply qb);exact rvk;simp only [go_sem];first|exact ql|apply qe|apply qa|apply qf|skip)
    |with_reducible first|intro _|apply aiA
   all_goals try exact clz
  ·have b2:q=0:=Classical.not_not.1 b2
   have p2:(q=0)=True:=eq_true b2
   simp (disch:=omega) only [strs,zX,p2,go_sem]
   repeat' first
    |((first|apply qd|apply qb);exact rvk;simp only [go_sem];first|exact ql|apply qe|apply qa|apply qf|skip)
    |with_reducible first|intro _|apply aiA
   all_goals try exact clz
   refine hK _ _ (n+1,w'+1+1) ⟨hn,fun j hj=> ?_⟩ (by simp only;omega) (Wk.trans (Wk.kill3 ) (Wk.temps ?_))
   ·by_cases e':j=n
    ·subst e';rw [ex,←hq,b2]
    ·exact n2 j (by simp only at hj;omega)
   ·(simp only [strs,zX,go_sem,qk,qh,qg,qj];try (repeat' first|(with_reducible apply aiA)|(apply qe;omega)|(apply qa;rfl)|exact ql))
 ·have r2:((n:Int)<e.vars.length)=False:=eq_false (by omega)
  have e':n=e.vars.length:=by omega
  subst e'
  rw [if_neg (fun hc=>hc (qW (f:=fun i=>qaY names gs (e.vars.getD i default).sigla) (fun j hj=>n2 j hj)))]at hR
  have hln:=qkE names gs e e.vars.length
  unfold qqn at hR
  rw [hln]at hR
  have c94:=fun h=>twP (cnt names gs e e.vars.length) h hln
  rw [hln]at c94
  obtain ⟨D,hD⟩: ∃D,D=cnt names gs e e.vars.length:=⟨_,rfl⟩
  have eD:=hD.symm
  simp only [eD]at hR hln c94
  have fT:List.take 32 (qH D)=List.map (fun n=>AV.int .i64 n) D:=List.take_of_length_le (by rw [zq];omega)
  have fL:=zq D
  rw [hln]at fL
  cases b3:zd (fun i=>decide (1<D.getD i 0)) 32 with
  |true=>
   rw [b3]at c94 hR
   rw [if_pos rfl]at hR
   rw [hR]
   simp (disch:=omega) only [strs,zX,r2,eD,fT,fL,go_sem]
   repeat' first
    |((first|refine cA (c94 _) ?_ ?_|refine cG (fun e=>c94 _) ?_ ?_|refine cU (fun _=>c94 _) ?_ ?_);exact flk;simp (disch:=omega) only [strs,zX,r2,eD,fT,fL,go_sem])
    |((first|apply qd|apply qb);exact rvk;simp only [go_sem];first|exact ql|apply qe|apply qa|apply qf|skip)
    |with_reducible first|intro _|apply aiA
   all_goals try exact clz
  |false=>
   rw [b3]at c94 hR
   rw [if_neg (by simp)]at hR
   rw [hR]
   simp (disch:=omega) only [strs,zX,r2,eD,fT,fL,go_sem]
   repeat' first
    |((first|refine cA (c94 _) ?_ ?_|refine cG (fun e=>c94 _) ?_ ?_|refine cU (fun _=>c94 _) ?_ ?_);exact flk;simp (disch:=omega) only [strs,zX,r2,eD,fT,fL,go_sem])
    |((first|apply qd|apply qb);exact rvk;simp only [go_sem];first|exact ql|apply qe|apply qa|apply qf|skip)
    |with_reducible first|intro _|apply aiA
   all_goals try exact clz
theorem qdm {p q:Nat→Bool} {n:Nat} (h: ∀k,k<n→p k=q k):jh p n=jh q n:=by
 unfold jh
 congr 1
 refine List.filter_congr fun k hk=>h k (List.mem_range.1 hk)
theorem qbd {p:Nat→Bool} {n:Nat} {x:Int}:x∈jh p n↔ ∃k:Nat,k<n∧p k=true∧x=k:=by
 unfold jh
 constructor
 ·intro h
  obtain ⟨k,hk,rfl⟩:=List.mem_map.1 h
  obtain ⟨h1,h2⟩:=List.mem_filter.1 hk
  exact ⟨k,List.mem_range.1 h1,h2,rfl⟩
 ·rintro ⟨k,h1,h2,rfl⟩
  exact List.mem_map.2 ⟨k,List.mem_filter.2 ⟨List.mem_range.2 h1,h2⟩,rfl⟩
theorem qgZ {p:Nat→Bool} {n:Nat} (hn:n≤64):qd1 64 (jh p n)=0:=by
 unfold qd1
 refine qW fun i hi=> ?_
 have hpw:(jh p n).Pairwise (· < ·):=by
  unfold jh
  rw [List.pairwise_map]
  refine List.Pairwise.imp ?_ (List.Pairwise.filter _ List.pairwise_lt_range)
  intro a b hab
  show (a:Int)<(b:Int)
  omega
 have g: ∀j (hj:j<(jh p n).length),(jh p n).getD j 0=(jh p n)[j]:=fun j hj=>by rw [gdqA,zf hj];rfl
 unfold qe7
 obtain ⟨k,h1,h2,h3⟩:=qbd.1 (List.getElem_mem hi)
 rw [g i hi,if_neg (by rw [h3];omega)]
 split
 ·rename_i hc
  obtain ⟨h4,h5⟩:=hc
  rw [g (i-1) (by omega)]at h5
  have:=List.pairwise_iff_getElem.1 hpw (i-1) i (by omega) hi (by omega)
  omega
 ·rfl
theorem smw (ws:List Str) (m:Nat) (k:Nat→Str) (h:List AObj) (h1:ws.length≤1000000000) (h2:m≤1000000000):
  ACalls Tryz.prog 103 [strs ws,.sl m (fun j=> [.str (k j)])] h (.bool (decide (ws.length=m∧ ∀i,i<ws.length→ws.getD i []=k i))) h:=by
 obtain ⟨R,hR⟩: ∃R,R=decide (ws.length=m∧ ∀i,i<ws.length→ws.getD i []=k i):=⟨_,rfl⟩
 rw [←hR]
 by_cases g:ws.length=m
 ·have k0:((ws.length:Int)=m)=True:=eq_true (by omega)
  refine acO qqL ?_
  simp (disch:=omega) only [qrU,strs,k0,go_sem]
  repeat' first
   |((first|apply qd|apply qb);exact rvk;simp only [go_sem];first|exact ql|apply qe|apply qa|apply qf|skip)
   |with_reducible first|intro _|apply aiA
  all_goals try exact clz
  refine qu (T:=fun i:Nat=>qT 26 [(0,strs ws),(1,.sl m (fun j=> [.str (k j)])),(5,.int .i64 i)]) (H:=fun _=>h) (inv:=fun i=>i≤ws.length∧ ∀j,j<i→ws.getD j []=k j) (m:=fun i=>ws.length-i) 0 ⟨Nat.zero_le _,fun j hj=>by omega⟩ (Wk.temps ?_) ?_
  ·(simp only [strs,go_sem,qk,qh,qg,qj];try (repeat' first|(with_reducible apply aiA)|(apply qe;omega)|(apply qa;rfl)|exact ql))
  rintro i ⟨i1,i2⟩ K hK
  by_cases hi:i<ws.length
  ·have k1:((i:Int)<ws.length)=True:=eq_true (by omega)
   have k3:((i:Int)<m)=True:=eq_true (by omega)
   obtain ⟨x,hx⟩: ∃x,x=ws.getD i []:=⟨_,rfl⟩
   have ex:=hx.symm
   by_cases e:x=k i
   ·have k2:(x=k i)=True:=eq_true e
    simp (disch:=omega) only [strs,k1,k2,k3,ex,go_sem]
    repeat' first
     |((first|apply qd|apply qb);exact rvk;simp only [go_sem];first|exact ql|apply qe|apply qa|apply qf|skip)
     |with_reducible first|intro _|apply aiA
    all_goals try exact clz
    refine hK _ _ (i+1) ⟨hi,fun j hj=> ?_⟩ (by omega) (Wk.temps ?_)
    ·by_cases e':j=i
     ·subst e';rw [ex];exact e
     ·exact i2 j (by omega)
    ·(simp only [strs,go_sem,qk,qh,qg,qj];try (repeat' first|(with_reducible apply aiA)|(apply qe;omega)|(apply qa;rfl)|exact ql))
   ·have k2:(x=k i)=False:=eq_false e
    have hV:R=false:=by rw [hR];exact decide_eq_false fun hc=>e (by rw [←ex];exact hc.2 i hi)
    rw [hV]
    simp (disch:=omega) only [strs,k1,k2,k3,ex,go_sem]
    repeat' first
     |((first|apply qd|apply qb);exact rvk;simp only [go_sem];first|exact ql|apply qe|apply qa|apply qf|skip)
     |with_reducible first|intro _|apply aiA
    all_goals try exact clz
  ·have k1:((i:Int)<ws.length)=False:=eq_false (by omega)
   have hV:R=true:=by rw [hR];exact decide_eq_true ⟨g,fun j hj=>i2 j (by omega)⟩
   rw [hV]
   simp (disch:=omega) only [strs,k1,go_sem]
   repeat' first
    |((first|apply qd|apply qb);exact rvk;simp only [go_sem];first|exact ql|apply qe|apply qa|apply qf|skip)
    |with_reducible first|intro _|apply aiA
   all_goals try exact clz
 ·have k0:((ws.length:Int)=m)=False:=eq_false (by omega)
  have hV:R=false:=by rw [hR];exact decide_eq_false fun hc=>g hc.1
  rw [hV]
  refine acO qqL ?_
  simp (disch:=omega) only [qrU,strs,k0,go_sem]
  repeat' first
   |((first|apply qd|apply qb);exact rvk;simp only [go_sem];first|exact ql|apply qe|apply qa|apply qf|skip)
   |with_reducible first|intro _|apply aiA
  all_goals try exact clz
theorem qBq (a b:List Str) (h:List AObj) (h1:a.length≤1000000000) (h2:b.length≤1000000000):
  ACalls Tryz.prog 103 [strs a,strs b] h (.bool (decide (a=b))) h:=by
 have c:=smw a b.length (fun j=>b.getD j []) h h1 h2
 have e:decide (a.length=b.length∧ ∀i,i<a.length→a.getD i []=b.getD i [])=decide (a=b):=decide_eq_decide.2 (jb ([]:Str)).symm
 rw [e]at c
 exact c
def qcV (names:List Str) (gs:List Gr) (e:En):Nat→List Int×Bool
 |0=>(ju names gs e.sup,false)
 |i+1=>(jh (fun k=>decide ((k:Int)∈(qcV names gs e i).1)||decide ((k:Int)∈ju names gs (e.vars.getD i default).sigla)) 64,(qcV names gs e i).2||(qcV names gs e i).1.any fun x=>decide (x∈ju names gs (e.vars.getD i default).sigla))
theorem qcd (names:List Str) (gs:List Gr) (e:En) (i:Nat):qcV names gs e (i+1)=(jh (fun k=>decide ((k:Int)∈(qcV names gs e i).1)||decide ((k:Int)∈ju names gs (e.vars.getD i default).sigla)) 64,(qcV names gs e i).2||(qcV names gs e i).1.any fun x=>decide (x∈ju names gs (e.vars.getD i default).sigla)):=rfl
theorem qgJ (names:List Str) (gs:List Gr) (sg:List Str):qd1 64 (ju names gs sg)=0∧(ju names gs sg).length≤64:=by
 unfold ju
 split
 ·exact ⟨qgZ (by omega),zS _ _⟩
 ·exact ⟨rfl,Nat.zero_le _⟩
theorem qrI (names:List Str) (gs:List Gr) (e:En) (i:Nat):qd1 64 (qcV names gs e i).1=0∧(qcV names gs e i).1.length≤64:=by
 cases i with
 |zero=>exact qgJ _ _ _
 |succ i=>rw [qcd];exact ⟨qgZ (by omega),zS _ _⟩
theorem qnX (L:List Int): ∀(C:List Int) (j:Nat),L.Nodup→(∀x∈L,0≤x∧x<C.length)→j<C.length→(qcW C L).getD j 0=C.getD j 0+if (j:Int)∈L then 1 else 0:=by
 induction L with
 |nil=>intro C j _ _ _;simp [qcW]
 |cons n L ih=>
  intro C j hn hL hj
  obtain ⟨h1,h2⟩:=List.nodup_cons.1 hn
  have hb:=hL n (by simp)
  show (qcW (C.set n.toNat (C.getD n.toNat 0+1)) L).getD j 0=_
  rw [ih _ j h2 (fun x hx=>by rw [List.length_set];exact hL x (by simp [hx])) (by rw [List.length_set];exact hj)]
  by_cases e:(j:Int)=n
  ·have e2:n.toNat=j:=by omega
   have e3: ¬(j:Int)∈L:=by rw [e];exact h1
   rw [if_neg e3,if_pos (by rw [e];simp),e2]
   have:(C.set j (C.getD j 0+1)).getD j 0=C.getD j 0+1:=by
    rw [gdqA,List.getElem?_set_self hj];rfl
   rw [this]
   omega
  ·have e2: ¬n.toNat=j:=by omega
   have:(C.set n.toNat (C.getD n.toNat 0+1)).getD j 0=C.getD j 0:=by
    rw [gdqA,List.getElem?_set_ne e2,←gdqA]
   rw [this]
   congr 1
   simp [e]
theorem qax (p:Nat→Bool) (n:Nat):(jh p n).Nodup:=by
 unfold jh
 rw [List.Nodup,List.pairwise_map]
 refine List.Pairwise.imp ?_ (List.Pairwise.filter _ List.nodup_range)
 intro a b hab hc
 exact hab (by have hx:(a:Int)=(b:Int):=hc;omega)
theorem qdi (names:List Str) (gs:List Gr) (sg:List Str):(ju names gs sg).Nodup:=by
 unfold ju
 split
 ·exact qax _ _
 ·exact List.nodup_nil
structure qz3 (A:List Int) (B:Bool) (C:List Int):Prop where
 len:C.length=32
 rng: ∀x∈A,0≤x∧x<32
 mem: ∀k:Nat,k<32→((k:Int)∈A↔1≤C.getD k 0)
 nn: ∀k:Nat,k<32→0≤C.getD k 0
 tw:B=true↔ ∃k:Nat,k<32∧1<C.getD k 0
theorem qgW {A O A' C:List Int} {B:Bool} (h:qz3 A B C) (ho:O.Nodup) (hr: ∀x∈O,0≤x∧x<32) (hA: ∀x,x∈A'↔x∈A∨x∈O):qz3 A' (B||A.any fun x=>decide (x∈O)) (qcW C O):=by
 have hl:=h.len
 have hg:=fun (k:Nat) (hk:k<32)=>qnX O C k ho (fun x hx=>by have:=hr x hx;omega) (by omega)
 refine ⟨by rw [qce,hl],fun x hx=> ?_,fun k hk=> ?_,fun k hk=> ?_,?_⟩
 ·rcases (hA x).1 hx with hx|hx
  ·exact h.rng x hx
  ·exact hr x hx
 ·rw [hA,h.mem k hk,hg k hk]
  have:=h.nn k hk
  by_cases e:(k:Int)∈O
  ·rw [if_pos e]
   exact ⟨fun _=>by omega,fun _=> .inr e⟩
  ·rw [if_neg e]
   constructor
   ·rintro (h1|h1)
    ·omega
    ·exact absurd h1 e
   ·intro h1;exact .inl (by omega)
 ·rw [hg k hk]
  have:=h.nn k hk
  split<;>omega
 ·rw [Bool.or_eq_true,h.tw,List.any_eq_true]
  constructor
  ·rintro (⟨k,hk,h1⟩|⟨x,hx,h1⟩)
   ·refine ⟨k,hk,?_⟩
    rw [hg k hk]
    split<;>omega
   ·have h1:=of_decide_eq_true h1
    have hx2:=h.rng x hx
    have e:((x.toNat:Nat):Int)=x:=by omega
    refine ⟨x.toNat,by omega,?_⟩
    rw [hg _ (by omega),e,if_pos h1]
    have:=(h.mem x.toNat (by omega)).1 (by rw [e];exact hx)
    omega
  ·rintro ⟨k,hk,h1⟩
   rw [hg k hk]at h1
   by_cases e:(k:Int)∈O
   ·rw [if_pos e]at h1
    exact .inr ⟨(k:Int),(h.mem k hk).2 (by omega),decide_eq_true e⟩
   ·rw [if_neg e]at h1
    exact .inl ⟨k,hk,by omega⟩
theorem qtt:qz3 [] false (List.replicate 32 0):=by
 have g: ∀k:Nat,k<32→(List.replicate 32 (0:Int)).getD k 0=0:=fun k hk=>by
  rw [gdqA,List.getElem?_replicate,if_pos hk];rfl
 refine ⟨by simp,fun x hx=>by simp at hx,fun k hk=> ?_,fun k hk=> ?_,?_⟩
 ·rw [g k hk];simp
 ·rw [g k hk];omega
 ·constructor
  ·intro h;cases h
  ·rintro ⟨k,hk,h1⟩;rw [g k hk]at h1;omega
theorem qrG (names:List Str) (gs:List Gr) (e:En): ∀i,qz3 (qcV names gs e i).1 (qcV names gs e i).2 (cnt names gs e i):=by
 have hO:=fun sg=>jK (@qgH names gs sg)
 intro i
 induction i with
 |zero=>
  have:=qgW (A':=ju names gs e.sup) qtt (qdi names gs e.sup) (hO e.sup) (fun x=>by simp)
  exact this
 |succ i ih=>
  rw [qcd]
  unfold cnt
  refine qgW ih (qdi _ _ _) (hO _) (fun x=> ?_)
  rw [qbd]
  constructor
  ·rintro ⟨k,hk,h1,rfl⟩
   simpa using h1
  ·intro hx
   have hb:0≤x∧x<32:=by
    rcases hx with hx|hx
    ·exact ih.rng x hx
    ·exact hO _ x hx
   have e:((x.toNat:Nat):Int)=x:=by omega
   refine ⟨x.toNat,by omega,?_,e.symm⟩
   simp only [e]
   simpa using hx
theorem qeh (names:List Str) (gs:List Gr) (e:En) (i:Nat):qqn (cnt names gs e i)=(qcV names gs e i).2:=by
 have h:=qrG names gs e i
 unfold qqn
 rw [h.len,Bool.eq_iff_iff,h.tw,qG]
 simp only [decide_eq_true_eq]
def inV (names:List Str) (gs:List Gr) (e:En) (src:Int) (i:Nat):Bool:=decide (src∈ju names gs (e.vars.getD i default).sigla)
def vIx (names:List Str) (gs:List Gr) (e:En) (src:Int):Int:=qad (inV names gs e src) e.vars.length 0
def qgy (a b:En):Bool:=decide (a.frm<b.frm)||decide (a.frm=b.frm)&&decide (a.to<b.to)
end RC
end
section
open Go Go.Proofs AF
def qtr:List Nat:= [132,109,174,220,68]
def qv3:C:=
 ((C.ops [MC 2 (.bool false)]).seq ((C.ops [MV 3 0,MV 4 0,BI 5 .neq 3 4,MV 2 5]).seq
 C.ret))
theorem qxE:qK Tryz.prog 195 6 0 [RV.tmp 2] qv3:=fi Tryz.f195 [] qtr []
end
