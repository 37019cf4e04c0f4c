import Derived.Test.YthlgfjbghnildaaGreatDoorK12
import Derived.Test.YthlgfjbghnildaaGreatDoorK1
import Derived.Test.YthlgfjbghnildaaGreatDoorK3
import Derived.Test.YthlgfjbghnildaaGreatDoorK6
import Derived.Test.YthlgfjbghnildaaGreatDoorProg
set_option linter.all false
set_option linter.unusedSimpArgs false
set_option linter.unusedVariables false
set_option linter.unusedSectionVars false
set_option maxRecDepth 100000
section
open Go Go.Proofs AF HY LN
namespace RC
set_option maxHeartbeats 8000000
end RC
end
section
open Go Go.Proofs AF
end
section
open Go Go.Proofs AF HY LN
namespace RC
set_option maxHeartbeats 16000000
end RC
end
section
open Go Go.Proofs AF HY LN
namespace RC
set_option maxHeartbeats 8000000
def anN (a b:Nat):Nat:=a&&&(2^64-1-b)
theorem qpF (a b:Nat):anN a b≤a:=Nat.and_le_left
theorem qfX {a b:Nat} (ha:a<2^64) (hb:b<2^64):qeM .u64 (a:Int) (b:Int)=((anN a b:Nat):Int):=by
 have hab:=qpF a b
 unfold qeM
 rw [show IntKind.bits IntKind.u64=64 from rfl,jY,jY,BitVec.toNat_and,BitVec.toNat_not,BitVec.toNat_ofNat,BitVec.toNat_ofNat,Nat.mod_eq_of_lt ha,Nat.mod_eq_of_lt hb]
 exact qaS (Int.natCast_nonneg _) (by unfold anN at hab;omega)
theorem qcY {a b:Nat} (ha:a<2^64) (hb:b<2^64) (i:Nat):(anN a b).testBit i=(a.testBit i&& !b.testBit i):=by
 unfold anN
 rw [Nat.testBit_and,show 2^64-1-b=2^64-(b+1) by omega,Nat.testBit_two_pow_sub_succ hb]
 by_cases hi:i<64
 ·simp [hi]
 ·rw [Nat.testBit_lt_two_pow (Nat.lt_of_lt_of_le ha (Nat.pow_le_pow_right (by omega) (by omega)))]
  rfl
def qmL (n:Nat):Nat:=(qY n.testBit 64).length
theorem qzV (n:Nat) (h:List AObj) (hn:n<256):qm Tryz.prog 99 [.int .u64 (n:Int)] h (.int .i64 (qmL n)) h:=by
 refine acO qyA ?_
 simp (disch:=omega) only [qzN,List.replicate,go_sem]
 repeat' first
  |((first|apply qc|apply qb);exact rvk;simp only [go_sem];first|exact VLe.refl _|apply qd|apply qa|apply qe|skip)
  |with_reducible first|refine And.intro ?_ ?_|intro _
 all_goals try exact clz
 clear h
 revert n
 decide+kernel
def qgC (names:List Str) (gs:List Gr) (set:List Int):Int:=if sgE names gs=0 then qae names.length set else 1
theorem qA4 (names:List Str) (gs:List Gr) (set:List Int) (h:List AObj) (hz:Szs names gs) (hs:set.length≤1000000000):qm Tryz.prog 95 [strs names,qu gs,ql set] h (.int .i64 (qgC names gs set)) h:=by
 have c59:=fun h=>sgP names gs h hz
 have c92:=fun h=>qzW set names.length h hs
 have zl: ∀g,valL g .len [strs names]= .int .i64 names.length:=fun _=>rfl
 have zo: ∀g,okL g .len [strs names]=True:=fun _=>eq_true trivial
 unfold qgC
 by_cases g:sgE names gs=0
 ·rw [if_pos g]
  simp only [g]at c59
  refine acO qvA ?_
  simp (disch:=omega) only [qxL,List.replicate,zl,zo,go_sem]
  repeat' first
   |((first|refine cA (c59 _) ?_ ?_|refine cG (fun e=>c59 _) ?_ ?_|refine cA (c92 _) ?_ ?_|refine cG (fun e=>c92 _) ?_ ?_|refine cU (fun _=>c59 _) ?_ ?_|refine cU (fun _=>c92 _) ?_ ?_);(next=>exact flk);simp (disch:=omega) only [zl,zo,go_sem])
   |((first|apply qc|apply qb);exact rvk;simp only [go_sem];first|exact VLe.refl _|apply qd|apply qa|apply qe|skip)
   |with_reducible first|refine And.intro ?_ ?_|intro _
  all_goals try exact clz
 ·rw [if_neg g]
  have k:(sgE names gs=0)=False:=eq_false g
  refine acO qvA ?_
  simp (disch:=omega) only [qxL,List.replicate,zl,zo,k,go_sem]
  repeat' first
   |((first|refine cA (c59 _) ?_ ?_|refine cG (fun e=>c59 _) ?_ ?_|refine cA (c92 _) ?_ ?_|refine cG (fun e=>c92 _) ?_ ?_|refine cU (fun _=>c59 _) ?_ ?_|refine cU (fun _=>c92 _) ?_ ?_);(next=>exact flk);simp (disch:=omega) only [zl,zo,k,go_sem])
   |((first|apply qc|apply qb);exact rvk;simp only [go_sem];first|exact VLe.refl _|apply qd|apply qa|apply qe|skip)
   |with_reducible first|refine And.intro ?_ ?_|intro _
  all_goals try exact clz
theorem qkk {names:List Str} {gs:List Gr} (h:sgE names gs=0) (i:Nat):inB 64 (gs.getD i default).mem:=by
 have h:=qbx h
 by_cases hi:i<gs.length
 ·intro j hj
  have:=(kK (qe8 h hi)).1 j hj
  have:=h.n32
  omega
 ·rw [gdqA,List.getElem?_eq_none (by omega)]
  intro j hj
  exact absurd hj (by simp [show (default:Gr).mem= []from rfl])
def qil (gs:List Gr) (all:Nat) (i:Nat):Bool:=decide (anN (jf (gs.getD i default).mem) all=0)
def kl (gs:List Gr) (all:Nat):List Int:=qY (qil gs all) gs.length
theorem qBb (gs:List Gr) (all:Nat) (h:List AObj) (hg:gs.length≤1000000) (hm: ∀i,inB 64 (gs.getD i default).mem) (hl: ∀i,(gs.getD i default).mem.length≤1000000000) (ha:all<2^64):qm Tryz.prog 97 [qu gs,.int .u64 (all:Int)] h (ql (kl gs all)) h:=by
 unfold kl
 have zl: ∀g,valL g .len [qu gs]= .int .i64 gs.length:=fun _=>rfl
 have zo: ∀g,okL g .len [qu gs]=True:=fun _=>eq_true trivial
 refine acO qyy ?_
 simp (disch:=omega) only [qzL,List.replicate,zl,zo,go_sem]
 repeat' first
  |((first|apply qc|apply qb);exact rvk;simp only [go_sem];first|exact VLe.refl _|apply qd|apply qa|apply qe|skip)
  |with_reducible first|refine And.intro ?_ ?_|intro _
 all_goals try exact clz
 refine qn (T:=fun i:Nat×Nat×AObj×AObj=>qI 27 [(1,.int .u64 (all:Int)),(5,.osl (h.length+1) i.2.1 1 0 (qY (qil gs all) i.1).length),(8,qu gs),(9,.int .i64 gs.length),(10,.int .i64 i.1)])
  (H:=fun i=>h++ [.emp 1,zk i.2.1 3 (qp (qY (qil gs all) i.1)),i.2.2.1,i.2.2.2,.emp 0])
  (inv:=fun i=>i.1≤gs.length∧qH [i.2.2.1] 0=true∧qH [i.2.2.2] 0=true) (m:=fun i=>gs.length-i.1) (0,1,.emp 0,.emp 0) ⟨Nat.zero_le _,rfl,rfl⟩ (Wk.temps ?_) ?_
 ·(simp only [qY,List.range_zero,List.filter_nil,List.length_nil,List.replicate,go_sem,qj,qh,qg,qi];try (repeat' first|(with_reducible refine And.intro ?_ ?_)|(apply qd;omega)|(apply qa;rfl)|exact VLe.refl _))
 rintro ⟨i,v,O2,O3⟩ ⟨i1,i2,i3⟩ K hK
 simp only at i1 i2 i3 hK
 have i2': ∀m,qH (O2::m) 0=true:=fun _=>i2
 have i3': ∀m,qH (O3::m) 0=true:=fun _=>i3
 have hst:=jz (qil gs all) i
 have hln:=qS (qil gs all) i
 obtain ⟨L,hL⟩: ∃L,L=qY (qil gs all) i:=⟨_,rfl⟩
 rw [←hL]at hst hln
 have eL:=hL.symm
 have eC:=qw L
 by_cases hi:i<gs.length
 ·have k1:((i:Int)<gs.length)=True:=eq_true (by omega)
  have c96:=fun h=>qxf (gs.getD i default).mem h (hl i) (hm i)
  have hlt:=qbo (hm i)
  have hB:qil gs all i=decide (anN (jf (gs.getD i default).mem) all=0):=rfl
  obtain ⟨gr,hgr⟩: ∃gr,gr=gs.getD i default:=⟨_,rfl⟩
  have egr:=hgr.symm
  simp only [egr]at c96 hB
  rw [egr]at hlt
  have hd:=qfX hlt ha
  obtain ⟨q,hq⟩: ∃q,q=anN (jf gr.mem) all:=⟨_,rfl⟩
  rw [←hq]at hd hB
  have eTk:List.take L.length (qp L)=qp L:=List.take_of_length_le (by omega)
  by_cases g0:q=0
  ·have k2:((q:Int)=0)=True:=eq_true (by omega)
   rw [if_pos (by rw [hB];exact decide_eq_true g0)]at hst
   simp (disch:=omega) only [List.replicate,qu,grC,k1,i2',i3',eL,egr,Nat.mul_one,go_sem]
   repeat' first
    |((first|refine cA (c96 _) ?_ ?_|refine cG (fun e=>c96 _) ?_ ?_|refine cU (fun _=>c96 _) ?_ ?_);(next=>exact flk);simp (disch:=omega) only [qu,grC,k1,k2,i2',i3',eL,egr,hd,eC,eTk,Nat.mul_one,go_sem])
    |((first|apply qc|apply qb);exact rvk;simp only [go_sem];first|exact VLe.refl _|apply qd|apply qa|apply qe|skip)
    |with_reducible first|refine And.intro ?_ ?_|intro _
   all_goals try exact clz
   have eA:qp L++ [AV.int .i64 (i:Int)]=qp (qY (qil gs all) (i+1)):=by rw [hst,qQ];rfl
   rw [eA]
   refine hK _ _ (i+1,v+1,.mem (qv (some O2)+1) 85 (grC gr),.mem (qv (some O3)+1) 3 [.int .i64 (i:Int)]) ⟨hi,rfl,rfl⟩ (by simp only;omega) ?_
   simp only [hst,List.length_append,List.length_cons,List.length_nil]
   refine Wk.temps ?_
   (simp only [List.replicate,go_sem,qj,qh,qg,qi];try (repeat' first|(with_reducible refine And.intro ?_ ?_)|(apply qd;omega)|(apply qa;rfl)|exact VLe.refl _))
  ·have k2:((q:Int)=0)=False:=eq_false (by omega)
   rw [if_neg (by rw [hB];simpa using g0),List.append_nil]at hst
   simp (disch:=omega) only [List.replicate,qu,grC,k1,i2',eL,egr,go_sem]
   repeat' first
    |((first|refine cA (c96 _) ?_ ?_|refine cG (fun e=>c96 _) ?_ ?_|refine cU (fun _=>c96 _) ?_ ?_);(next=>exact flk);simp (disch:=omega) only [qu,grC,k1,k2,i2',eL,egr,hd,go_sem])
    |((first|apply qc|apply qb);exact rvk;simp only [go_sem];first|exact VLe.refl _|apply qd|apply qa|apply qe|skip)
    |with_reducible first|refine And.intro ?_ ?_|intro _
   all_goals try exact clz
   refine hK _ _ (i+1,v,.mem (qv (some O2)+1) 85 (grC gr),O3) ⟨hi,rfl,i3⟩ (by simp only;omega) ?_
   simp only [hst]
   refine Wk.temps ?_
   (simp only [List.replicate,go_sem,qj,qh,qg,qi];try (repeat' first|(with_reducible refine And.intro ?_ ?_)|(apply qd;omega)|(apply qa;rfl)|exact VLe.refl _))
 ·obtain rfl:i=gs.length:=by omega
  have k1:((gs.length:Int)<gs.length)=False:=eq_false (by omega)
  rw [eL]
  simp (disch:=omega) only [List.replicate,k1,eL,go_sem]
  repeat' first
   |((first|apply qc|apply qb);exact rvk;simp only [go_sem];first|exact VLe.refl _|apply qd|apply qa|apply qe|skip)
   |with_reducible first|refine And.intro ?_ ?_|intro _
  all_goals try exact clz
  exact kT (fun _=>rfl) rfl
def qpL (a b:List Int):Int:=qab (fun i=>qdC (a.getD i 0) (b.getD i 0)) 0 a.length
theorem qAq (a b:List Int) (h:List AObj) (hl:a.length=b.length) (ha:a.length≤1000000000):qm Tryz.prog 101 [ql a,ql b] h (.int .i64 (qpL a b)) h:=by
 obtain ⟨R,hR⟩: ∃R,R=qpL a b:=⟨_,rfl⟩
 rw [←hR]
 unfold qpL at hR
 have z1: ∀g,valL g .len [ql a]= .int .i64 a.length:=fun _=>rfl
 have z2: ∀g,okL g .len [ql a]=True:=fun _=>eq_true trivial
 have z3: ∀g,valL g .len [ql b]= .int .i64 a.length:=fun _=>by rw [hl];rfl
 have z4: ∀g,okL g .len [ql b]=True:=fun _=>eq_true trivial
 refine acO quD ?_
 simp (disch:=omega) only [qtB,List.replicate,z1,z2,go_sem]
 repeat' first
  |((first|apply qc|apply qb);exact rvk;simp only [go_sem];first|exact VLe.refl _|apply qd|apply qa|apply qe|skip)
  |with_reducible first|refine And.intro ?_ ?_|intro _
 all_goals try exact clz
 refine qn (T:=fun i:Nat=>qI 36 [(0,ql a),(1,ql b),(9,ql a),(10,.int .i64 a.length),(11,.int .i64 i)]) (H:=fun _=>h) (inv:=fun i=>i≤a.length∧ ∀j,j<i→(fun i=>qdC (a.getD i 0) (b.getD i 0)) j=0) (m:=fun i=>a.length-i) 0 ⟨Nat.zero_le _,fun j hj=>by omega⟩ (Wk.temps ?_) ?_
 ·(simp only [List.replicate,go_sem,qj,qh,qg,qi];try (repeat' first|(with_reducible refine And.intro ?_ ?_)|(apply qd;omega)|(apply qa;rfl)|exact VLe.refl _))
 rintro i ⟨i1,i2⟩ K hK
 by_cases hi:i<a.length
 ·have k1:((i:Int)<a.length)=True:=eq_true (by omega)
  have k2:((a.length:Int)≤i)=False:=eq_false (by omega)
  have k3:((i:Int)<b.length)=True:=eq_true (by omega)
  have hE:=qP (f:=fun i=>qdC (a.getD i 0) (b.getD i 0)) hi i2
  have c122:=fun h=>qxR (a.getD i 0) (b.getD i 0) h
  have k4:((b.length:Int)≤i)=False:=eq_false (by omega)
  by_cases g:qdC (a.getD i 0) (b.getD i 0)=0
  ·simp only [g]at c122
   simp (disch:=omega) only [List.replicate,ql,k1,k2,k3,k4,go_sem]
   repeat' first
    |((first|refine cA (c122 _) ?_ ?_|refine cG (fun e=>c122 _) ?_ ?_|refine cU (fun _=>c122 _) ?_ ?_);(next=>exact flk);simp (disch:=omega) only [ql,k1,k2,k3,k4,go_sem])
    |((first|apply qc|apply qb);exact rvk;simp only [go_sem];first|exact VLe.refl _|apply qd|apply qa|apply qe|skip)
    |with_reducible first|refine And.intro ?_ ?_|intro _
   all_goals try exact clz
   refine hK _ _ (i+1) ⟨hi,fun j hj=> ?_⟩ (by omega) (Wk.temps ?_)
   ·by_cases e:j=i
    ·subst e;exact g
    ·exact i2 j (by omega)
   ·(simp only [List.replicate,ql,go_sem,qj,qh,qg,qi];try (repeat' first|(with_reducible refine And.intro ?_ ?_)|(apply qd;omega)|(apply qa;rfl)|exact VLe.refl _))
  ·have k5:(qdC (a.getD i 0) (b.getD i 0)=0)=False:=eq_false g
   rw [hR,hE g]
   simp (disch:=omega) only [List.replicate,ql,k1,k2,k3,k4,go_sem]
   repeat' first
    |((first|refine cA (c122 _) ?_ ?_|refine cG (fun e=>c122 _) ?_ ?_|refine cU (fun _=>c122 _) ?_ ?_);(next=>exact flk);simp (disch:=omega) only [ql,k1,k2,k3,k4,k5,go_sem])
    |((first|apply qc|apply qb);exact rvk;simp only [go_sem];first|exact VLe.refl _|apply qd|apply qa|apply qe|skip)
    |with_reducible first|refine And.intro ?_ ?_|intro _
   all_goals try exact clz
 ·have k1:((i:Int)<a.length)=False:=eq_false (by omega)
  have hz:=qC (f:=fun i=>qdC (a.getD i 0) (b.getD i 0)) (n:=a.length) (fun j hj=>i2 j (by omega))
  rw [hR,hz]
  have k2:((a.length:Int)<a.length)=False:=eq_false (by omega)
  simp (disch:=omega) only [List.replicate,z1,z2,z3,z4,k1,go_sem]
  repeat' first
   |((first|apply qc|apply qb);exact rvk;simp only [go_sem];first|exact VLe.refl _|apply qd|apply qa|apply qe|skip)
   |with_reducible first|refine And.intro ?_ ?_|intro _
  all_goals try exact clz
end RC
end
section
open Go Go.Proofs AF HY LN
namespace RC
set_option maxHeartbeats 8000000
def jJ (ms:List Nat):AV:= .sl ms.length fun i=> [.int .u64 ((ms.getD i 0:Nat):Int)]
theorem qhe (L:List Nat):(jJ L).flag=true:=rfl
theorem qfD (L:List Nat):(jJ L).strip=jJ L:=rfl
theorem qfr (L:List Nat):(jJ L).solid=true:=rfl
theorem qeZ (L:List Nat):(jJ L).cells= [jJ L]:=rfl
attribute [go_sem] qhe qfD qfr qeZ
def qim (ms:List Nat) (c:Nat):Nat→Nat
 |0=>0
 |i+1=>if c.testBit i=true then qim ms c i|||ms.getD i 0 else qim ms c i
theorem qed (ms:List Nat) (c i:Nat):qim ms c (i+1)=if c.testBit i=true then qim ms c i|||ms.getD i 0 else qim ms c i:=rfl
def chN (ms:List Nat) (c:Nat):Nat:=qim ms c ms.length
theorem qkH {ms:List Nat} (hm: ∀i,ms.getD i 0<2^64) (c:Nat): ∀i,qim ms c i<2^64:=by
 intro i
 induction i with
 |zero=>show (0:Nat)<2^64;decide
 |succ i ih=>
  unfold qim
  split
  ·exact Nat.or_lt_two_pow ih (hm i)
  ·exact ih
theorem qn9 (ms:List Nat) (c j:Nat): ∀i,(qim ms c i).testBit j=zS (fun k=>c.testBit k&&(ms.getD k 0).testBit j) i:=by
 intro i
 induction i with
 |zero=>show (0:Nat).testBit j=_;rw [Nat.zero_testBit];rfl
 |succ i ih=>
  have e:zS (fun k=>c.testBit k&&(ms.getD k 0).testBit j) (i+1)=(zS (fun k=>c.testBit k&&(ms.getD k 0).testBit j) i||(c.testBit i&&(ms.getD i 0).testBit j)):=by
   rw [Bool.eq_iff_iff,Bool.or_eq_true,qW,qW]
   constructor
   ·rintro ⟨k,h1,h2⟩
    by_cases e:k=i
    ·subst e;exact .inr h2
    ·exact .inl ⟨k,by omega,h2⟩
   ·rintro (⟨k,h1,h2⟩|h)
    ·exact ⟨k,by omega,h2⟩
    ·exact ⟨i,by omega,h⟩
  rw [e,←ih,qed]
  split
  ·rename_i h
   rw [Nat.testBit_or,h,Bool.true_and]
  ·rename_i h
   rw [Bool.not_eq_true]at h
   rw [h,Bool.false_and,Bool.or_false]
theorem qpK {ms:List Nat} (hm: ∀i,ms.getD i 0<2^64) (c:Nat):chN ms c<2^64:=qkH hm c _
def qmH (ms:List Nat):List (List AV):=(List.range (2^ms.length)).map fun c=> [.int .u64 ((c:Nat):Int),.int .u64 ((chN ms c:Nat):Int)]
theorem qc4 (ms:List Nat):(qmH ms).length=2^ms.length:=by simp [qmH]
theorem qfY {ms:List Nat} {i:Nat} (hi:i<(qmH ms).length):(qmH ms)[i]= [.int .u64 ((i:Nat):Int),.int .u64 ((chN ms i:Nat):Int)]:=by
 simp [qmH]
theorem qnd (ms:List Nat): ∀a∈qmH ms,a.length=2:=by
 intro a ha
 unfold qmH at ha
 obtain ⟨_,_,rfl⟩:=List.mem_map.1 ha
 rfl
theorem qAm (ms:List Nat) (h:List AObj):qm Tryz.prog 98 [jJ ms] h (.fn (.func 130) [] [.ip [jJ ms]]) h:=by
 refine acO qyz ?_
 simp (disch:=omega) only [qzM,List.replicate,go_sem]
 repeat' first
  |((first|apply qc|apply qb);exact rvk;simp only [go_sem];first|exact VLe.refl _|apply qd|apply qa|apply qe|skip)
  |with_reducible first|refine And.intro ?_ ?_|intro _
 all_goals try exact clz
set_option maxHeartbeats 16000000 in
theorem itC (ms:List Nat) (hl:ms.length≤16) (hm: ∀i,ms.getD i 0<2^64):qts Tryz.prog 130 [.ip [jJ ms]] (qmH ms):=by
 intro h ts LI S E hS hE body start hts
 have zl: ∀g,valL g .len [jJ ms]= .int .i64 ms.length:=fun _=>rfl
 have zo: ∀g,okL g .len [jJ ms]=True:=fun _=>eq_true trivial
 have hsh:=qfn (n:=ms.length) (by omega)
 have hp:2^ms.length≤2^16:=Nat.pow_le_pow_right (by omega) hl
 have hxl:=qc4 ms
 obtain ⟨N,hN⟩: ∃N,N=2^ms.length:=⟨_,rfl⟩
 rw [←hN]at hsh hp hxl
 refine acQ quU ?_
 simp (disch:=omega) only [qtP,List.replicate,zl,zo,hsh,go_sem]
 repeat' first
  |((first|apply qc|apply qb);exact rvk;simp only [go_sem];first|exact VLe.refl _|apply qd|apply qa|apply qe|skip)
  |with_reducible first|refine And.intro ?_ ?_|intro _
 all_goals try exact clz
 refine qn (T:=fun i:Nat×List AObj=>qI 35 [(0,.yld h.length),(1,.ip [jJ ms]),(9,.int .u64 ((N:Nat):Int)),(10,.int .u64 ((i.1:Nat):Int))])
  (H:=fun i=>i.2++ [.lp .ready ts LI])
  (inv:=fun i=>i.1≤N∧S i.1 i.2) (m:=fun i=>N-i.1) (0,h) ⟨Nat.zero_le _,start⟩ (Wk.temps ?_) ?_
 ·(simp only [List.replicate,go_sem,qj,qh,qg,qi];try (repeat' first|(with_reducible refine And.intro ?_ ?_)|(apply qd;omega)|(apply qa;rfl)|exact VLe.refl _))
 rintro ⟨i,hh⟩ ⟨i1,i2⟩ K hK
 simp only at i1 i2 hK
 obtain ⟨hlen,hlow⟩:=hS _ _ i2
 have hb:(h++ [AObj.lp LS.ready ts LI]).length=(hh++ [AObj.lp LS.ready ts LI]).length:=by simp [hlen]
 rw [hb]
 by_cases hi:i<N
 ·have q0:((i:Int)<N)=True:=eq_true (by omega)
  have hix:i<(qmH ms).length:=by omega
  have hb':=body i hh [] hix i2
  rw [qfY hix]at hb'
  simp (disch:=omega) only [List.replicate,q0,zl,zo,go_sem]
  repeat' first
   |((first|apply qc|apply qb);exact rvk;simp only [go_sem];first|exact VLe.refl _|apply qd|apply qa|apply qe|skip)
   |with_reducible first|refine And.intro ?_ ?_|intro _
  all_goals try exact clz
  have hclt:i<2^64:=by omega
  have hml:=qkH hm i
  refine qn (T:=fun j:Nat=>qI 35 [(0,.yld (hh++ [AObj.lp LS.ready ts LI]).length.pred),(1,.ip [jJ ms]),(3,.int .u64 ((i:Nat):Int)),(4,.int .u64 ((qim ms i j:Nat):Int)),(9,.int .u64 ((N:Nat):Int)),(10,.int .u64 ((i:Nat):Int)),(13,jJ ms),(14,.int .i64 ms.length),(15,.int .i64 j)])
   (H:=fun _=>hh++ [.lp .ready ts LI]) (inv:=fun j=>j≤ms.length) (m:=fun j=>ms.length-j) 0 (Nat.zero_le _) (Wk.temps ?_) ?_
  ·have e2:(hh++ [AObj.lp LS.ready ts LI]).length.pred=h.length:=by simp [hlen]
   rw [e2]
   (simp only [List.replicate,qim,go_sem,qj,qh,qg,qi];try (repeat' first|(with_reducible refine And.intro ?_ ?_)|(apply qd;omega)|(apply qa;rfl)|exact VLe.refl _))
  have e2:(hh++ [AObj.lp LS.ready ts LI]).length.pred=h.length:=by simp [hlen]
  rw [e2]
  rintro j j1 K2 hK2
  by_cases hj:j<ms.length
  ·have q1:((j:Int)<ms.length)=True:=eq_true (by omega)
   have e1:=qjh (a:=i) (n:=j) hclt (by omega)
   have eo:=qgl (hml j) (hm j)
   have hs:=qed ms i j
   have q2:(0≤(j:Int))=True:=eq_true (by omega)
   cases g:i.testBit j with
   |true=>
    rw [g,if_pos rfl]at e1
    rw [g,if_pos rfl]at hs
    simp (disch:=omega) only [List.replicate,jJ,q1,q2,e1,go_sem]
    repeat' first
     |((first|apply qc|apply qb);exact rvk;simp only [go_sem];first|exact VLe.refl _|apply qd|apply qa|apply qe|skip)
     |with_reducible first|refine And.intro ?_ ?_|intro _
    all_goals try exact clz
    refine hK2 _ _ (j+1) hj (by omega) ?_
    simp only [hs]
    refine Wk.temps ?_
    (simp only [List.replicate,jJ,go_sem,qj,qh,qg,qi];try (repeat' first|(with_reducible refine And.intro ?_ ?_)|(apply qd;omega)|(apply qa;rfl)|exact VLe.refl _))
   |false=>
    rw [g,if_neg (by simp)]at e1
    rw [g,if_neg (by simp)]at hs
    simp (disch:=omega) only [List.replicate,jJ,q1,q2,e1,go_sem]
    repeat' first
     |((first|apply qc|apply qb);exact rvk;simp only [go_sem];first|exact VLe.refl _|apply qd|apply qa|apply qe|skip)
     |with_reducible first|refine And.intro ?_ ?_|intro _
    all_goals try exact clz
    refine hK2 _ _ (j+1) hj (by omega) ?_
    simp only [hs]
    refine Wk.temps ?_
    (simp only [List.replicate,jJ,go_sem,qj,qh,qg,qi];try (repeat' first|(with_reducible refine And.intro ?_ ?_)|(apply qd;omega)|(apply qa;rfl)|exact VLe.refl _))
  ·obtain rfl:j=ms.length:=by omega
   have q1:((ms.length:Int)<ms.length)=False:=eq_false (by omega)
   have hch:qim ms i ms.length=chN ms i:=rfl
   rw [hch]
   simp (disch:=omega) only [List.replicate,q1,go_sem]
   repeat' first
    |((first|apply qc|apply qb);exact rvk;simp only [go_sem];first|exact VLe.refl _|apply qd|apply qa|apply qe|skip)
    |with_reducible first|refine And.intro ?_ ?_|intro _
   all_goals try exact clz
   ·exact ⟨.ready,ts,LI,kE hlen⟩
   ·refine kx.mono ?_ hb'
    rintro v h' ⟨hh',⟨rfl,hn,rfl⟩|⟨st,rfl,hs',rfl⟩⟩
    ·simp (disch:=omega) only [go_sem]
     repeat' first
      |((first|apply qc|apply qb);exact rvk;simp only [go_sem];first|exact VLe.refl _|apply qd|apply qa|apply qe|skip)
      |with_reducible first|refine And.intro ?_ ?_|intro _
     all_goals try exact clz
     refine hK _ _ (i+1,hh') ⟨hi,hn⟩ (by simp only;omega) (Wk.temps ?_)
     (simp only [List.replicate,go_sem,qj,qh,qg,qi];try (repeat' first|(with_reducible refine And.intro ?_ ?_)|(apply qd;omega)|(apply qa;rfl)|exact VLe.refl _))
     rw [qaS (by omega) (by omega)]
     exact qd (by omega)
    ·simp (disch:=omega) only [go_sem]
     obtain ⟨r1,r2⟩:=(hE _ _ hs').ret (L:=LI) st hts
     exact jT trivial r1 r2 ⟨_,.inr ⟨st,hs',rfl⟩⟩ (VLe.refl _)
 ·have e:i=N:=by omega
  subst e
  have q0:((i:Int)<i)=False:=eq_false (by omega)
  simp (disch:=omega) only [List.replicate,q0,go_sem]
  repeat' first
   |((first|apply qc|apply qb);exact rvk;simp only [go_sem];first|exact VLe.refl _|apply qd|apply qa|apply qe|skip)
   |with_reducible first|refine And.intro ?_ ?_|intro _
  all_goals try exact clz
  obtain ⟨r1,r2⟩:=(hS _ _ i2).ret (L:=LI) .ready hts
  exact jT trivial r1 r2 ⟨hh,.inl ⟨by rw [hxl];exact i2,rfl⟩⟩ (VLe.refl _)
end RC
end
section
open Go Go.Proofs AF HY LN
namespace RC
set_option maxHeartbeats 8000000
def usM (gs:List Gr) (L:List Int):List Nat:=L.map fun i=>jf (gs.getD i.toNat default).mem
theorem qfH (gs:List Gr) (L:List Int):(usM gs L).length=L.length:=by simp [usM]
theorem qfG {gs:List Gr} {L:List Int} {i:Nat} (hi:i<L.length):(usM gs L).getD i 0=jf (gs.getD (L.getD i 0).toNat default).mem:=by
 unfold usM
 rw [gdqA,List.getElem?_map,qR hi,gdqA (l:=L),qR hi]
 rfl
theorem qqi {gs:List Gr} (hm: ∀i,inB 64 (gs.getD i default).mem) (L:List Int) (i:Nat):(usM gs L).getD i 0<2^64:=by
 by_cases hi:i<L.length
 ·rw [qfG hi];exact qbo (hm _)
 ·rw [gdqA,List.getElem?_eq_none (by rw [qfH];omega)]
  show (0:Nat)<2^64
  decide
def j7 (gs:List Gr) (all:Nat) (L:List Int) (c:Nat):List Int:=
 (qY c.testBit 64).map (fun k=>L.getD k.toNat 0)++(qY (anN all (chN (usM gs L) c)).testBit 64).map (fun s=>(gs.length:Int)+s)
theorem qdm (gs:List Gr) (all:Nat) (L:List Int) (c:Nat):(j7 gs all L c).length=qmL c+qmL (anN all (chN (usM gs L) c)):=by
 unfold j7 qmL
 rw [List.length_append,List.length_map,List.length_map]
def qti (a b:List Int):Bool:=decide (a.length<b.length)||decide (a.length=b.length)&&decide (qpL a b<0)
def bst (gs:List Gr) (all:Nat) (L:List Int):Nat→List Int
 |0=>j7 gs all L 0
 |c+1=>if qti (j7 gs all L (c+1)) (bst gs all L c)=true then j7 gs all L (c+1) else bst gs all L c
theorem qji (gs:List Gr) (all:Nat) (L:List Int): ∀c,∃k,k≤c∧bst gs all L c=j7 gs all L k:=by
 intro c
 induction c with
 |zero=>exact ⟨0,Nat.le_refl _,rfl⟩
 |succ c ih=>
  obtain ⟨k,h1,h2⟩:=ih
  unfold bst
  split
  ·exact ⟨c+1,Nat.le_refl _,rfl⟩
  ·exact ⟨k,by omega,h2⟩
def qxb (gs:List Gr) (all:Nat):List Int:=bst gs all (kl gs all) (2^(kl gs all).length-1)
def kY (names:List Str) (gs:List Gr) (p:Int):Str:=if p<gs.length then (gs.getD p.toNat default).name else names.getD (p-gs.length).toNat []
def shR (names:List Str) (gs:List Gr) (set:List Int):List Str:=if qgC names gs set=0 then (qxb gs (jf set)).map (kY names gs) else []
theorem qak {c n k:Nat} (hc:c<2^n) (hk:c.testBit k=true):k<n:=by
 by_cases h:k<n
 ·exact h
 ·rw [Nat.testBit_lt_two_pow (Nat.lt_of_lt_of_le hc (Nat.pow_le_pow_right (by omega) (by omega)))]at hk
  cases hk
theorem zA {p:Nat→Bool} {n:Nat} {x:Int} (h:x∈qY p n): ∃k:Nat,x=(k:Int)∧k<n∧p k=true:=by
 unfold qY at h
 obtain ⟨k,h1,rfl⟩:=List.mem_map.1 h
 obtain ⟨h2,h3⟩:=List.mem_filter.1 h1
 exact ⟨k,rfl,List.mem_range.1 h2,h3⟩
theorem qkK {set:List Int} {n:Nat} (hn:n≤64) (h:inB n set):jf set<2^n:=by
 have h64:inB 64 set:=fun i hi=>by have:=h i hi;omega
 refine Nat.lt_pow_two_of_testBit _ fun i hi=> ?_
 rw [jk h64]
 refine decide_eq_false fun hm=> ?_
 have:=zI h _ hm
 omega
theorem qpG {a b n:Nat} (h:a<2^n):anN a b<2^n:=Nat.lt_of_le_of_lt (qpF a b) h
theorem qfQ {gs:List Gr} {all:Nat} {x:Int} (h:x∈kl gs all): ∃k:Nat,x=(k:Int)∧k<gs.length:=by
 obtain ⟨k,h1,h2,_⟩:=zA h
 exact ⟨k,h1,h2⟩
theorem qqa {names:List Str} {gs:List Gr} {set:List Int} {all:Nat} (hs:inB names.length set) (hn:names.length≤64) (ha:all=jf set) {c:Nat} (hc:c<2^(kl gs all).length) {p:Int} (hp:p∈j7 gs all (kl gs all) c):0≤p∧p<gs.length+names.length:=by
 unfold j7 at hp
 rcases List.mem_append.1 hp with hp|hp
 ·obtain ⟨k,h1,rfl⟩:=List.mem_map.1 hp
  obtain ⟨k',rfl,h2,h3⟩:=zA h1
  have hk:=qak hc h3
  have hm:(kl gs all).getD k' 0∈kl gs all:=by
   rw [gdqA,qR hk];exact List.getElem_mem hk
  obtain ⟨g,e,hg⟩:=qfQ hm
  rw [Int.toNat_natCast,e]
  omega
 ·obtain ⟨k,h1,rfl⟩:=List.mem_map.1 hp
  obtain ⟨k',rfl,h2,h3⟩:=zA h1
  have:=qak (qpG (b:=chN (usM gs (kl gs all)) c) (by rw [ha];exact qkK hn hs)) h3
  omega
end RC
end
section
open Go Go.Proofs AF
def qvS:List Nat:= [93,74,79,120,147,148,161,170,63,105,131,64,31,32,57,58,29,30]
def qxF:C:=
 ((C.ops [O1 4 (.box 0 23) 1,ON 6 (.nilo 1 1 9) [],MC 7 (i6 0)]).seq (((C.ops [MV 27 0,LD 28 4,MV 29 2,ON 30 (.call 95 true) [.t 27,.t 28,.t 29],MV 8 30]).seq ((C.ops [MV 31
 8,BC 32 .neq 31 (i6 0)]).seq (C.cond (.t 32) ((C.ops [MV 33 8,ON 6 (.nilo 1 1 9) [],MV 7 33]).seq C.ret) C.skip))).seq ((C.ops [MV 34 2,O1 35 (.call 96 true) 34,⟨some 9,none,
 .alloc 2 122 [.int .u64 0],[]⟩,ST 1 9 35]).seq ((C.ops [LD 36 4,LD 37 9,O2 38 (.call 97 true) 36 37,⟨some 10,none,.alloc 3 37 [.nl],[]⟩,ST 1 10 38]).seq ((C.ops [ON 11
 (.nilo 4 1 122) []]).seq (((C.ops [LD 39 10,O1 40 .len 39,MC 41 (i6 0)]).seq (C.block 0 ((C.ops [BI 42 .lss 41 40]).seq ((C.cond (.t 42) C.skip (C.exit 0)).seq ((C.block 1
 ((C.ops [O2 43 (.idxA 1) 39 41,LD 44 43,MV 13 44]).seq (C.ops [MV 45 11,LD 46 4,MV 47 13,O2 48 (.idxA 2) 46 47,O1 49 (.fldA 1) 48,LD 50 49,O1 51 (.call 96 true) 50,⟨some
 52,none,.bslc 5 1 1 122 [.int .u64 0] [(0,1)],[.t 51]⟩,O2 53 (.app 6 1 122 8) 45 52,MV 11 53]))).seq (C.ops [BC 54 .add 41 (i6 1),MV 41 54])))).loop)).seq ((C.ops [⟨some 14,
 none,.alloc 7 37 [.nl],[]⟩]).seq ((C.ops [⟨some 15,none,.alloc 8 4 [.bool false],[]⟩,⟨none,none,.store 1,[.t 15,.c (.bool false)]⟩]).seq (((C.wk.seq (C.ops [MV 55 11,O1
 56 (.call 98 true) 55])).seq (C.block 2 (C.range (.t 56) [57,58] ((C.ops [MV 16 57]).seq (C.ops [MV 17 58])) (C.block 3 ((C.wk.seq (C.ops [MV 59 16,O1 60 (.call 99 true) 59,LD
 61 9,MV 62 17,BI 63 .andNot 61 62,O1 64 (.call 99 true) 63,BI 65 .add 60 64,MV 18 65])).seq (((C.ops [LD 66 15,MV 67 66,MG 68 67 true 18,P1 69 67 true (.load none) 14,P1
 70 67 true .len 69,P2 71 67 true (.bin .gtr) 68 70,PF 72 67 71]).seq (C.cond (.t 72) (C.exit 3) C.skip)).seq ((C.ops [ON 19 (.nilo 9 1 3) []]).seq (((C.ops [MV 73 16,O1 74
 (.call 100 true) 73,O1 75 .len 74,MC 76 (i6 0)]).seq (C.block 4 ((C.ops [BI 77 .lss 76 75]).seq ((C.cond (.t 77) C.skip (C.exit 4)).seq ((C.block 5 ((C.ops [O2 78 (.idxA 1) 74
 76,LD 79 78,MV 21 79]).seq (C.ops [MV 80 19,LD 81 10,MV 82 21,O2 83 (.idxA 1) 81 82,LD 84 83,⟨some 85,none,.bslc 10 1 1 3 [i6 0] [(0,1)],[.t 84]⟩,O2 86 (.app 11 1 3 8)
 80 85,MV 19 86]))).seq (C.ops [BC 87 .add 76 (i6 1),MV 76 87])))).loop)).seq (((C.ops [LD 88 9,MV 89 17,BI 90 .andNot 88 89,O1 91 (.call 100 true) 90,O1 92 .len 91,MC 93 (i6
 0)]).seq (C.block 6 ((C.ops [BI 94 .lss 93 92]).seq ((C.cond (.t 94) C.skip (C.exit 6)).seq ((C.block 7 ((C.ops [O2 95 (.idxA 1) 91 93,LD 96 95,MV 23 96]).seq (C.ops [MV 97 19,
 LD 98 4,O1 99 .len 98,MV 100 23,BI 101 .add 99 100,⟨some 102,none,.bslc 12 1 1 3 [i6 0] [(0,1)],[.t 101]⟩,O2 103 (.app 13 1 3 8) 97 102,MV 19 103]))).seq (C.ops [BC 104
 .add 93 (i6 1),MV 93 104])))).loop)).seq ((C.ops [LD 105 15,O1 106 (.un UnOp.not) 105,MV 107 106,MG 108 107 false 19,P1 109 107 false .len 108,P1 110 107 false (.load none)
 14,P1 111 107 false .len 110,P2 112 107 false (.bin .lss) 109 111,PT 113 107 112,MV 114 113,MG 115 114 false 19,P1 116 114 false (.load none) 14,P2 117 114 false (.call 101
 true) 115 116,PC 118 114 false (.bin .lss) 117 (i6 0),PT 119 114 118]).seq (C.cond (.t 119) (C.ops [MV 120 19,ST 1 14 120,⟨none,none,.store 1,[.t 15,.c (.bool true)]⟩])
 C.skip))))))))))).seq ((C.ops [ON 24 (.nilo 14 1 9) []]).seq (((C.wk.seq (C.ops [LD 121 14,O1 122 .len 121,MC 123 (i6 0)])).seq (C.block 8 ((C.ops [BI 124 .lss 123 122]).seq
 ((C.cond (.t 124) C.skip (C.exit 8)).seq ((C.block 9 ((C.ops [O2 125 (.idxA 1) 121 123,LD 126 125,MV 26 126]).seq ((C.ops [MV 127 26,LD 128 4,O1 129 .len 128,BI 130 .lss 127
 129]).seq (C.cond (.t 130) (C.ops [MV 131 24,LD 132 4,MV 133 26,O2 134 (.idxA 2) 132 133,O1 135 (.fldA 0) 134,LD 136 135,⟨some 137,none,.bslc 15 1 1 9 [.str []] [(0,1)],
 [.t 136]⟩,O2 138 (.app 16 1 9 16) 131 137,MV 24 138]) (C.ops [MV 139 24,MV 140 0,MV 141 26,LD 142 4,O1 143 .len 142,BI 144 .sub 141 143,O2 145 (.idxA 1) 140 144,LD 146
 145,⟨some 147,none,.bslc 17 1 1 9 [.str []] [(0,1)],[.t 146]⟩,O2 148 (.app 18 1 9 16) 139 147,MV 24 148]))))).seq (C.ops [BC 149 .add 123 (i6 1),MV 123 149])))).loop)).seq
 ((C.ops [MV 150 24,MV 6 150,MC 7 (i6 0)]).seq
 C.ret))))))))))))
theorem qvt:qJ Tryz.prog 61 151 19 [RV.tmp 6,RV.tmp 7] qxF:=fi Tryz.f61 [4,6,9,10,11,52,53,14,15,19,85,86,102,103,24,137,138,147,148] qvS [14,17,33] (by kernel_rfl) (by kernel_rfl) (by kernel_rfl) (by kernel_rfl)
end
section
open Go Go.Proofs AF HY LN
namespace RC
set_option maxHeartbeats 16000000
def qdF (ms:List Nat):List AV:=ms.map fun m=> .int .u64 ((m:Nat):Int)
theorem qgF (ms:List Nat):(qdF ms).length=ms.length:=by simp [qdF]
theorem qpl (a b:List Nat):qdF (a++b)=qdF a++qdF b:=by simp [qdF]
theorem qh3 {L:List Nat} {i:Nat} (hi:i<L.length):L.take (i+1)=L.take i++ [L.getD i 0]:=by
 rw [List.take_succ_eq_append_getElem hi,gdqA,qR hi];rfl
theorem j5 {L:List Int} {i:Nat} (hi:i<L.length):L.take (i+1)=L.take i++ [L.getD i 0]:=by
 rw [List.take_succ_eq_append_getElem hi,gdqA,qR hi];rfl
theorem qpm {L:List Nat} {n:Nat} (g:AV→AV) (hg: ∀n,g (.int .u64 n)= .int .u64 n) (hn:n=L.length):VLe (.sl n fun i=>(((qdF L).drop i).take 1).map g) (jJ L):=by
 subst hn
 refine VLe.sl_eq rfl (fun i hi=> ?_)
 unfold qdF
 rw [←List.map_drop,List.drop_eq_getElem_cons hi,List.map_cons,List.take_succ_cons,List.take_zero,List.map_cons,List.map_nil,hg,gdqA,qR hi]
 rfl
theorem qoV {v n:Nat} {L:List Nat} {g:AV→AV} (hg: ∀s,g (.int .u64 s)= .int .u64 s) (hn:n=L.length):VLe (qex (some (zk v 122 (qdF L))) v 1 0 n g) (jJ L):=by
 subst hn
 by_cases h:L= []
 ·subst h
  show VLe (qex (some (.emp v)) v 1 0 0 g) _
  rw [slOf_emp,if_pos rfl]
  exact jn
 ·have e0:zk v 122 (qdF L)= .mem v 122 (qdF L):=jA (by simpa [qdF] using h)
  rw [e0,slOf_mem,if_pos ⟨rfl,by rw [qgF];omega⟩]
  simp only [Nat.zero_add,Nat.mul_one]
  exact qpm g hg rfl
def shH (h:List AObj) (gs:List Gr) (all:Nat) (L:List Int) (v4:Nat) (O5:AObj) (bc:AV) (fd:Bool) (O9 O10 O12:AObj) (tl:List AObj):List AObj:=
 h++(.mem 1 23 [qu gs]:: .emp 1:: .mem 1 122 [.int .u64 ((all:Nat):Int)]:: .mem 1 37 [ql L]:: .emp v4::O5:: .emp 0:: .mem 1 37 [bc]:: .mem 1 4 [.bool fd]::O9::O10:: .emp 0::O12:: .emp 0:: .emp 0:: .emp 0:: .emp 0:: .emp 0:: .emp 0::tl)
theorem qbb (h:List AObj) (gs:List Gr) (all:Nat) (L:List Int) (v4:Nat) (O5:AObj) (bc:AV) (fd:Bool) (O9 O10 O12:AObj) (tl:List AObj):shH h gs all L v4 O5 bc fd O9 O10 O12 []++tl=shH h gs all L v4 O5 bc fd O9 O10 O12 tl:=by simp [shH]
theorem zV (h:List AObj) (gs:List Gr) (all:Nat) (L:List Int) (v4:Nat) (O5:AObj) (bc:AV) (fd:Bool) (O9 O10 O12:AObj):(shH h gs all L v4 O5 bc fd O9 O10 O12 []).length=h.length+19:=by simp [shH]
def bsC (gs:List Gr) (all:Nat) (L:List Int):Nat→AV
 |0=> .nl
 |i+1=>ql (bst gs all L i)
def bsO (h:List AObj) (gs:List Gr) (all:Nat) (L:List Int) (i:Nat) (bc:AV) (O9:AObj):Prop:=
 (bc=bsC gs all L i∧qH [O9] 0=true)∨ ∃j v,i=j+1∧bc= .osl (h.length+9) v 1 0 (bst gs all L j).length∧O9=zk v 3 (qp (bst gs all L j))
theorem shW {h:List AObj} {gs:List Gr} {all:Nat} {L:List Int} {v4 i:Nat} {O5:AObj} {bc:AV} {fd:Bool} {O9 O10 O12:AObj} {tl:List AObj} (hb:bsO h gs all L i bc O9) (hl: ∀n,qai n O9):
  ∃O9',qH [O9'] 0=true∧(∀n,qai n O9')∧ ∀TT,Wk TT (shH h gs all L v4 O5 bc fd O9 O10 O12 tl) TT (shH h gs all L v4 O5 (bsC gs all L i) fd O9' O10 O12 tl):=by
 rcases hb with ⟨rfl,h2⟩|⟨j,v,rfl,rfl,rfl⟩
 ·exact ⟨O9,h2,hl,fun TT=>Wk.refl _ _⟩
 ·refine ⟨.emp (v+1),rfl,fun _=>trivial,fun TT=> ?_⟩
  have w:=Wk.fzCell (t:=TT) (h:=shH h gs all L v4 O5 (.osl (h.length+9) v 1 0 (bst gs all L j).length) fd (zk v 3 (qp (bst gs all L j))) O10 O12 tl) (j:=h.length+7) (k:=h.length+9) (i:=0) (v:=1) (ty:=37) (cs:= [.osl (h.length+9) v 1 0 (bst gs all L j).length]) (c:= .osl (h.length+9) v 1 0 (bst gs all L j).length) (c':=ql (bst gs all L j))
   (by unfold shH;simp only [go_sem]) rfl (by unfold shH;simp only [go_sem]) (by omega) (by
    rw [qaB]
    unfold shH
    rw [getO_app]
    exact kT (fun _=>rfl) rfl)
  unfold shH at w ⊢
  simp only [go_sem,List.set_cons_zero]at w
  exact w
theorem qkC (n:Nat) (L:List Nat):zE n (jJ L)=true:=rfl
theorem qaF (L:List Int) (n:Nat): ∀c∈qp L,zE n c=true:=by
 intro c hc
 unfold qp at hc
 obtain ⟨x,_,rfl⟩:=List.mem_map.1 hc
 rfl
theorem qAp (a b:List Int) (k v:Nat) (h:List AObj) (n:Nat) (hn:n=a.length) (hk:qA k h=some (zk v 3 (qp a))) (hl:a.length=b.length) (ha:a.length≤1000000000):qm Tryz.prog 101 [.osl k v 1 0 n,ql b] h (.int .i64 (qpL a b)) h:=by
 subst hn
 refine qm.borrow ((qAq a b [] hl ha).le ?_ (VLe.refl _)) rfl
 simp only [List.map_cons,List.map_nil,rei_osl,if_true,hk]
 exact ⟨kT (fun _=>rfl) rfl,VLe.refl _,trivial⟩
end RC
end
