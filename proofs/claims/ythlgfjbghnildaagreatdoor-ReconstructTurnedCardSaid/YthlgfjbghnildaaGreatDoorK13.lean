import Derived.Test.YthlgfjbghnildaaGreatDoorK11
import Derived.Test.YthlgfjbghnildaaGreatDoorK12
import Derived.Test.YthlgfjbghnildaaGreatDoorK2
import Derived.Test.YthlgfjbghnildaaGreatDoorK4
import Derived.Test.YthlgfjbghnildaaGreatDoorK7
import Derived.Test.YthlgfjbghnildaaGreatDoorProg
set_option linter.all false
set_option linter.unusedSimpArgs false
set_option linter.unusedVariables false
set_option linter.unusedSectionVars false
set_option maxRecDepth 100000
section
open Go Go.Proofs AF HY LN
namespace RC
set_option maxHeartbeats 8000000
theorem qvr (names:List Str) (gs:List Gr) (l:List En) (src:Int) {j:Nat} (hj:j<(qbd names gs l src l.length).length): ∃Y:Nat,Y<l.length∧(qbd names gs l src l.length).getD j 0=(Y:Int)∧(ofE names gs l src).getD j default=l.getD Y default:=by
 have hm:(qbd names gs l src l.length).getD j 0∈qbd names gs l src l.length:=by
  rw [gdqA,qU hj];exact List.getElem_mem hj
 have hr:=qfZ names gs l src l.length _ hm
 refine ⟨((qbd names gs l src l.length).getD j 0).toNat,by omega,by omega,?_⟩
 have e:(qbd names gs l src l.length).getD j 0=(qbd names gs l src l.length)[j]:=by rw [gdqA,qU hj];rfl
 rw [←qkI,gdqA,List.getElem?_map,qU hj,e]
 rfl
theorem qrL (names:List Str) (gs:List Gr) (l:List En) (src:Int):(qbd names gs l src l.length).length=(ofE names gs l src).length:=by
 rw [←qkI,List.length_map]
theorem qtF (names:List Str) (gs:List Gr) (t:List Str) (l:List En) (h:List AObj) (hc:CSz names gs t l) (hp:kh SG h):
  qm Tryz.prog 21 [strs names,qt gs,strs t,qz l] h (.int .i64 (rdE names gs t l)) h:=by
 have c49:=fun h=>sgR names gs h hc.hz
 have c50:=fun i l'=>qzr names gs t (l.getD i default) (h++l') hc.hz hc.ht (hc.he i) hc.gm (fun j=>by have:=hc.sg i j;omega) (by have:=hc.sp i;omega) (hp.app l')
 have c47:=fun (s:Nat) h=>qzV names gs l (s:Int) h hc.hz (by have:=hc.ln;omega) hc.gm (fun i=>by have:=hc.vl i;omega) (fun i j=>by have:=hc.sg i j;omega)
 have hln:=hc.ln
 have hnn:=hc.nn
 obtain ⟨R,hR⟩: ∃R,R=rdE names gs t l:=⟨_,rfl⟩
 rw [←hR]
 unfold rdE at hR
 by_cases g0:sgE names gs=0
 case neg=>
  rw [if_pos g0]at hR
  rw [hR]
  have k0:(sgE names gs=0)=False:=eq_false g0
  refine acO quF ?_
  simp (disch:=omega) only [qwO,List.replicate,strs,qt,qz,k0,go_sem]
  unfold strs qt at c49
  repeat' first
   |((first|refine cA (c49 _) ?_ ?_|refine cG (fun e=>c49 _) ?_ ?_|refine cU (fun _=>c49 _) ?_ ?_);(next=>exact flk);simp (disch:=omega) only [strs,qt,qz,k0,go_sem])
   |((first|apply qc|apply qb);exact rvk;simp only [go_sem];first|exact VLe.refl _|apply qd|apply qa|apply qe|skip)
   |with_reducible first|refine And.intro ?_ ?_|intro _
  all_goals try exact clz
 rw [if_neg (fun hc=>hc g0),if_neg (by omega)]at hR
 have k1:((4096:Int)<l.length)=False:=eq_false (by omega)
 rw [g0]at c49
 refine acO quF ?_
 simp (disch:=omega) only [qwO,List.replicate,qz,k1,go_sem]
 repeat' first
  |((first|refine cA (c49 _) ?_ ?_|refine cG (fun e=>c49 _) ?_ ?_|refine cU (fun _=>c49 _) ?_ ?_);(next=>exact flk);simp (disch:=omega) only [qz,k1,go_sem])
  |((first|apply qc|apply qb);exact rvk;simp only [go_sem];first|exact VLe.refl _|apply qd|apply qa|apply qe|skip)
  |with_reducible first|refine And.intro ?_ ?_|intro _
 all_goals try exact clz
 refine qn (T:=fun i:Nat=>qI 91 [(0,strs names),(1,qt gs),(2,strs t),(3,qz l),(9,.int .i64 i)]) (H:=fun _=>h++ [.emp 0,.emp 0]) (inv:=fun i=>i≤l.length∧ ∀j,j<i→kj names gs t (l.getD j default)=0) (m:=fun i=>l.length-i) 0 ⟨Nat.zero_le _,fun j hj=>by omega⟩ (Wk.temps ?_) ?_
 ·(simp only [qz,List.replicate,go_sem,qj,qh,qg,qi];try (repeat' first|(with_reducible refine And.intro ?_ ?_)|(apply qd;omega)|(apply qa;rfl)|exact VLe.refl _))
 rintro i ⟨i1,i2⟩ K hK
 by_cases hi:i<l.length
 ·have k2:((i:Int)<l.length)=True:=eq_true (by omega)
  have hE:=qP (f:=fun i=>kj names gs t (l.getD i default)) hi i2
  have c50:=c50 i
  obtain ⟨x,hx⟩: ∃x,x=l.getD i default:=⟨_,rfl⟩
  have ex:=hx.symm
  simp only [ex]at hE c50
  simp only [enC]at c50
  by_cases g1:kj names gs t x=0
  ·rw [g1]at c50
   simp (disch:=omega) only [List.replicate,qz,enC,k2,ex,go_sem]
   repeat' first
    |((first|refine cA (c50 _) ?_ ?_|refine cG (fun e=>c50 _) ?_ ?_|refine cU (fun _=>c50 _) ?_ ?_);(next=>exact flk);simp (disch:=omega) only [qz,enC,k2,ex,go_sem])
    |((first|apply qc|apply qb);exact rvk;simp only [go_sem];first|exact VLe.refl _|apply qd|apply qa|apply qe|skip)
    |with_reducible first|refine And.intro ?_ ?_|intro _
   all_goals try exact clz
   refine hK _ _ (i+1) ⟨hi,fun j hj=> ?_⟩ (by omega) (Wk.temps ?_)
   ·by_cases e:j=i
    ·subst e;rw [ex];exact g1
    ·exact i2 j (by omega)
   ·(simp only [qz,List.replicate,go_sem,qj,qh,qg,qi];try (repeat' first|(with_reducible refine And.intro ?_ ?_)|(apply qd;omega)|(apply qa;rfl)|exact VLe.refl _))
  ·have k3:(kj names gs t x=0)=False:=eq_false g1
   rw [if_pos (by rw [hE g1];exact g1),hE g1]at hR
   rw [hR]
   simp (disch:=omega) only [List.replicate,qz,enC,k2,ex,go_sem]
   repeat' first
    |((first|refine cA (c50 _) ?_ ?_|refine cG (fun e=>c50 _) ?_ ?_|refine cU (fun _=>c50 _) ?_ ?_);(next=>exact flk);simp (disch:=omega) only [qz,enC,k2,ex,k3,go_sem])
    |((first|apply qc|apply qb);exact rvk;simp only [go_sem];first|exact VLe.refl _|apply qd|apply qa|apply qe|skip)
    |with_reducible first|refine And.intro ?_ ?_|intro _
   all_goals try exact clz
 have hn0:=qA (f:=fun i=>kj names gs t (l.getD i default)) (fun j (hj:j<l.length)=>i2 j (by omega))
 rw [if_neg (fun hc=>hc hn0)]at hR
 have k2:((i:Int)<l.length)=False:=eq_false (by omega)
 simp (disch:=omega) only [List.replicate,qz,k2,go_sem]
 repeat' first
  |((first|apply qc|apply qb);exact rvk;simp only [go_sem];first|exact VLe.refl _|apply qd|apply qa|apply qe|skip)
  |with_reducible first|refine And.intro ?_ ?_|intro _
 all_goals try exact clz
 refine qn (T:=fun i:Nat×AObj×AObj=>qI 91 [(0,strs names),(1,qt gs),(3,qz l),(11,.int .i64 i.1)]) (H:=fun i=>h++ [i.2.1,i.2.2]) (inv:=fun i=>i.1≤names.length∧(∀j,j<i.1→jT (ofE names gs l (j:Int))=false)∧qN [i.2.1] 0=true∧qN [i.2.2] 0=true)
  (m:=fun i=>names.length-i.1) (0,.emp 0,.emp 0) ⟨Nat.zero_le _,fun j hj=>by omega,rfl,rfl⟩ (Wk.temps ?_) ?_
 ·(simp only [qz,List.replicate,go_sem,qj,qh,qg,qi];try (repeat' first|(with_reducible refine And.intro ?_ ?_)|(apply qd;omega)|(apply qa;rfl)|exact VLe.refl _))
 rintro ⟨s,O1,O2⟩ ⟨s1,s2,s3,s4⟩ K2 hK2
 simp only at s1 s2 s3 s4 hK2
 by_cases hs:s<names.length
 ·have k3:((s:Int)<names.length)=True:=eq_true (by omega)
  have c47:=c47 s
  have hat:=fun {j}=> @qvr names gs l (s:Int) j
  have hlen:=qrL names gs l (s:Int)
  have hcl:=qbO (ofE names gs l (s:Int))
  have hol:=qfY names gs l (s:Int) l.length
  obtain ⟨m,hm⟩: ∃m,m=qbd names gs l (s:Int) l.length:=⟨_,rfl⟩
  obtain ⟨L,hL⟩: ∃L,L=ofE names gs l (s:Int):=⟨_,rfl⟩
  rw [←hm]at c47 hlen hol
  rw [←hL]at hlen hcl
  simp only [←hm,←hL]at hat
  have hstep:jT L=false→ ∀j,j<s+1→jT (ofE names gs l (j:Int))=false:=by
   intro hc j hj
   by_cases e:j=s
   ·subst e;rw [←hL];exact hc
   ·exact s2 j (by omega)
  simp (disch:=omega) only [List.replicate,qz,strs,ql,k3,go_sem]
  unfold strs at c47
  repeat' first
   |((first|refine cA (c47 _) ?_ ?_|refine cG (fun e=>c47 _) ?_ ?_|refine cU (fun _=>c47 _) ?_ ?_);(next=>exact flk);simp (disch:=omega) only [qz,strs,ql,k3,go_sem])
   |((first|apply qc|apply qb);exact rvk;simp only [go_sem];first|exact VLe.refl _|apply qd|apply qa|apply qe|skip)
   |with_reducible first|refine And.intro ?_ ?_|intro _
  all_goals try exact clz
  refine qn (T:=fun i:Nat×AObj×AObj=>qI 91 [(0,strs names),(1,qt gs),(3,qz l),(11,.int .i64 s),(12,ql m),(13,.int .i64 ((i.1:Int)+1))]) (H:=fun i=>h++ [i.2.1,i.2.2])
   (inv:=fun i=>(∀j,j<i.1→j+1<L.length→jV (L.getD j default) (L.getD (j+1) default)=false)∧qN [i.2.1] 0=true∧qN [i.2.2] 0=true) (m:=fun i=>L.length-i.1) (0,O1,O2) ⟨fun j hj=>by omega,s3,s4⟩ (Wk.temps ?_) ?_
  ·(simp only [qz,ql,strs,List.replicate,go_sem,qj,qh,qg,qi];try (repeat' first|(with_reducible refine And.intro ?_ ?_)|(apply qd;omega)|(apply qa;rfl)|exact VLe.refl _))
  rintro ⟨i,O1,O2⟩ ⟨i2,i3,i4⟩ K3 hK3
  simp only at i2 i3 i4 hK3
  have i3': ∀m,qN (O1::m) 0=true:=fun _=>i3
  have i4': ∀m,qN (O2::m) 0=true:=fun _=>i4
  by_cases hi:i+1<L.length
  ·have q1:((i:Int)+1<m.length)=True:=eq_true (by omega)
   have q2:((i:Int)<m.length)=True:=eq_true (by omega)
   have q3:(0≤(i:Int)+1)=True:=eq_true (by omega)
   have q4:((i:Int)+1).toNat=i+1:=by omega
   obtain ⟨Y,y1,y2,y3⟩:=hat (j:=i) (by omega)
   obtain ⟨Z,z1,z2,z3⟩:=hat (j:=i+1) (by omega)
   have q5:((Y:Int)<l.length)=True:=eq_true (by omega)
   have q6:((Z:Int)<l.length)=True:=eq_true (by omega)
   have hst:=i2
   obtain ⟨A,hA⟩: ∃A,A=l.getD Y default:=⟨_,rfl⟩
   obtain ⟨B,hB⟩: ∃B,B=l.getD Z default:=⟨_,rfl⟩
   have eA:=hA.symm
   have eB:=hB.symm
   rw [eA]at y3
   rw [eB]at z3
   have hcf:jV A B=(decide (B.frm<A.to)||decide (A.frm=B.frm)&&decide (A.to=B.to)):=rfl
   simp (disch:=omega) only [List.replicate,qz,ql,q1,go_sem]
   repeat' first
    |((first|apply qc|apply qb);exact rvk;simp only [go_sem];first|exact VLe.refl _|apply qd|apply qa|apply qe|skip)
    |with_reducible first|refine And.intro ?_ ?_|intro _
   all_goals try exact clz
   refine qqE ?T ?H ?h1 ?h2
   case h1=>
    simp (disch:=omega) only [qz,ql,enC,q1,q2,q3,q4,q5,q6,y2,z2,i3',i4',eA,eB,Int.add_sub_cancel,Int.toNat_natCast,go_sem]
    repeat' first
     |((first|apply qc|apply qb);exact rvk;simp only [go_sem];first|exact VLe.refl _|apply qd|apply qa|apply qe|skip)
     |with_reducible first|refine And.intro ?_ ?_|intro _
    all_goals first
     |omega
     |rfl
   case h2=>
   have good:jV A B=false→qO Tryz.prog h.length (C.ops []) (fun _ _ _=>True) [] []:=fun _=>trivial
   have next:jV A B=false→ ∀j,j<i+1→j+1<L.length→jV (L.getD j default) (L.getD (j+1) default)=false:=by
    intro hc j hj hj2
    by_cases e:j=i
    ·subst e;rw [y3,z3];exact hc
    ·exact i2 j (by omega) hj2
   have bad:jV A B=true→R=17:=by
    intro hc
    rw [hR,if_pos]
    unfold zG
    rw [za]
    refine ⟨s,hs,?_⟩
    rw [←hL,hcl]
    exact ⟨i,hi,by rw [y3,z3];exact hc⟩
   by_cases b1:B.frm<A.to
   ·have r1:(B.frm<A.to)=True:=eq_true b1
    rw [bad (by rw [hcf,decide_eq_true b1];rfl)]
    simp (disch:=omega) only [enC,r1,go_sem]
    repeat' first
     |((first|apply qc|apply qb);exact rvk;simp only [go_sem];first|exact VLe.refl _|apply qd|apply qa|apply qe|skip)
     |with_reducible first|refine And.intro ?_ ?_|intro _
    all_goals try exact clz
   have r1:(B.frm<A.to)=False:=eq_false b1
   by_cases b2:A.frm=B.frm
   ·have r2:(A.frm=B.frm)=True:=eq_true b2
    by_cases b3:A.to=B.to
    ·have r3:(A.to=B.to)=True:=eq_true b3
     rw [bad (by rw [hcf,decide_eq_true b2,decide_eq_true b3,Bool.and_true,Bool.or_true])]
     simp (disch:=omega) only [enC,r1,r2,r3,go_sem]
     repeat' first
      |((first|apply qc|apply qb);exact rvk;simp only [go_sem];first|exact VLe.refl _|apply qd|apply qa|apply qe|skip)
      |with_reducible first|refine And.intro ?_ ?_|intro _
     all_goals try exact clz
    ·have r3:(A.to=B.to)=False:=eq_false b3
     simp (disch:=omega) only [enC,r1,r2,r3,go_sem]
     repeat' first
      |((first|apply qc|apply qb);exact rvk;simp only [go_sem];first|exact VLe.refl _|apply qd|apply qa|apply qe|skip)
      |with_reducible first|refine And.intro ?_ ?_|intro _
     all_goals try exact clz
     refine hK3 _ _ (i+1,_,_) ⟨next (by rw [hcf,decide_eq_false b1,decide_eq_false b3,Bool.and_false,Bool.or_false]),?_,?_⟩ (by simp only;omega) (Wk.temps ?_)
     rotate_left 2
     ·(simp only [qz,ql,strs,List.replicate,go_sem,qj,qh,qg,qi];try (repeat' first|(with_reducible refine And.intro ?_ ?_)|(apply qd;omega)|(apply qa;rfl)|exact VLe.refl _))
     ·rfl
     ·rfl
   ·have r2:(A.frm=B.frm)=False:=eq_false b2
    simp (disch:=omega) only [enC,r1,r2,go_sem]
    repeat' first
     |((first|apply qc|apply qb);exact rvk;simp only [go_sem];first|exact VLe.refl _|apply qd|apply qa|apply qe|skip)
     |with_reducible first|refine And.intro ?_ ?_|intro _
    all_goals try exact clz
    refine hK3 _ _ (i+1,_,_) ⟨next (by rw [hcf,decide_eq_false b1,decide_eq_false b2,Bool.false_and,Bool.or_false]),?_,?_⟩ (by simp only;omega) (Wk.temps ?_)
    rotate_left 2
    ·(simp only [qz,ql,strs,List.replicate,go_sem,qj,qh,qg,qi];try (repeat' first|(with_reducible refine And.intro ?_ ?_)|(apply qd;omega)|(apply qa;rfl)|exact VLe.refl _))
    ·rfl
    ·rfl
  ·have q1:((i:Int)+1<m.length)=False:=eq_false (by omega)
   have hcn:jT L=false:=by
    cases e:jT L with
    |false=>rfl
    |true=>
     obtain ⟨j,j1,j2⟩:=hcl.1 e
     rw [i2 j (by omega) j1]at j2;cases j2
   simp (disch:=omega) only [List.replicate,qz,ql,q1,go_sem]
   repeat' first
    |((first|apply qc|apply qb);exact rvk;simp only [go_sem];first|exact VLe.refl _|apply qd|apply qa|apply qe|skip)
    |with_reducible first|refine And.intro ?_ ?_|intro _
   all_goals try exact clz
   refine hK2 _ _ (s+1,O1,O2) ⟨hs,hstep hcn,i3,i4⟩ (by simp only;omega) (Wk.temps ?_)
   (simp only [qz,ql,strs,List.replicate,go_sem,qj,qh,qg,qi];try (repeat' first|(with_reducible refine And.intro ?_ ?_)|(apply qd;omega)|(apply qa;rfl)|exact VLe.refl _))
 ·have k3:((s:Int)<names.length)=False:=eq_false (by omega)
  have hcn:zG names gs l=false:=qE.2 fun j hj=>s2 j (by omega)
  rw [hcn,if_neg (by simp)]at hR
  rw [hR]
  simp (disch:=omega) only [List.replicate,qz,strs,k3,go_sem]
  repeat' first
   |((first|apply qc|apply qb);exact rvk;simp only [go_sem];first|exact VLe.refl _|apply qd|apply qa|apply qe|skip)
   |with_reducible first|refine And.intro ?_ ?_|intro _
  all_goals try exact clz
end RC
end
section
open Go Go.Proofs AF HY LN
namespace RC
set_option maxHeartbeats 8000000
section
variable (names : List Str) (gs : List Gr) (t : List Str) (l : List En) (src : Int) (h : List AObj)
end
end RC
end
section
open Go Go.Proofs AF HY LN
namespace RC
set_option maxHeartbeats 8000000
theorem qzZ (a:List Str) (h:List AObj) (hn:a.length≤1000000000):qm Tryz.prog 51 [strs a,strs a] h (.bool true) h:=by
 refine acO qxt ?_
 simp (disch:=omega) only [qyD,List.replicate,strs,go_sem]
 repeat' first
  |((first|apply qc|apply qb);exact rvk;simp only [go_sem];first|exact VLe.refl _|apply qd|apply qa|apply qe|skip)
  |with_reducible first|refine And.intro ?_ ?_|intro _
 all_goals try exact clz
 refine qn (T:=fun i:Nat=>qI 26 [(0,strs a),(1,strs a),(5,.int .i64 i)]) (H:=fun _=>h) (inv:=fun i=>i≤a.length) (m:=fun i=>a.length-i) 0 (Nat.zero_le _) (Wk.temps ?_) ?_
 ·(simp only [strs,List.replicate,go_sem,qj,qh,qg,qi];try (repeat' first|(with_reducible refine And.intro ?_ ?_)|(apply qd;omega)|(apply qa;rfl)|exact VLe.refl _))
 rintro i i1 K hK
 by_cases hi:i<a.length
 ·have k1:((i:Int)<a.length)=True:=eq_true (by omega)
  simp (disch:=omega) only [List.replicate,strs,k1,go_sem]
  repeat' first
   |((first|apply qc|apply qb);exact rvk;simp only [go_sem];first|exact VLe.refl _|apply qd|apply qa|apply qe|skip)
   |with_reducible first|refine And.intro ?_ ?_|intro _
  all_goals try exact clz
  refine hK _ _ (i+1) hi (by omega) (Wk.temps ?_)
  (simp only [strs,List.replicate,go_sem,qj,qh,qg,qi];try (repeat' first|(with_reducible refine And.intro ?_ ?_)|(apply qd;omega)|(apply qa;rfl)|exact VLe.refl _))
 ·have k1:((i:Int)<a.length)=False:=eq_false (by omega)
  simp (disch:=omega) only [List.replicate,strs,k1,go_sem]
  repeat' first
   |((first|apply qc|apply qb);exact rvk;simp only [go_sem];first|exact VLe.refl _|apply qd|apply qa|apply qe|skip)
   |with_reducible first|refine And.intro ?_ ?_|intro _
  all_goals try exact clz
theorem qy6 (L:List (List Str)) (h:List AObj) (hn:L.length≤1000000000) (hl: ∀i,(L.getD i []).length≤1000000000):qm Tryz.prog 23 [jC L,jC L] h (.bool true) h:=by
 have c51:=fun i h=>qzZ (L.getD i []) h (hl i)
 refine acO qxl ?_
 simp (disch:=omega) only [qyx,List.replicate,jC,go_sem]
 repeat' first
  |((first|apply qc|apply qb);exact rvk;simp only [go_sem];first|exact VLe.refl _|apply qd|apply qa|apply qe|skip)
  |with_reducible first|refine And.intro ?_ ?_|intro _
 all_goals try exact clz
 refine qn (T:=fun i:Nat=>qI 27 [(0,jC L),(1,jC L),(5,.int .i64 i)]) (H:=fun _=>h) (inv:=fun i=>i≤L.length) (m:=fun i=>L.length-i) 0 (Nat.zero_le _) (Wk.temps ?_) ?_
 ·(simp only [jC,List.replicate,go_sem,qj,qh,qg,qi];try (repeat' first|(with_reducible refine And.intro ?_ ?_)|(apply qd;omega)|(apply qa;rfl)|exact VLe.refl _))
 rintro i i1 K hK
 by_cases hi:i<L.length
 ·have k1:((i:Int)<L.length)=True:=eq_true (by omega)
  have c51:=c51 i
  simp (disch:=omega) only [List.replicate,jC,k1,go_sem]
  repeat' first
   |((first|refine cA (c51 _) ?_ ?_|refine cG (fun e=>c51 _) ?_ ?_|refine cU (fun _=>c51 _) ?_ ?_);(next=>exact flk);simp (disch:=omega) only [jC,k1,go_sem])
   |((first|apply qc|apply qb);exact rvk;simp only [go_sem];first|exact VLe.refl _|apply qd|apply qa|apply qe|skip)
   |with_reducible first|refine And.intro ?_ ?_|intro _
  all_goals try exact clz
  refine hK _ _ (i+1) hi (by omega) (Wk.temps ?_)
  (simp only [jC,List.replicate,go_sem,qj,qh,qg,qi];try (repeat' first|(with_reducible refine And.intro ?_ ?_)|(apply qd;omega)|(apply qa;rfl)|exact VLe.refl _))
 ·have k1:((i:Int)<L.length)=False:=eq_false (by omega)
  simp (disch:=omega) only [List.replicate,jC,k1,go_sem]
  repeat' first
   |((first|apply qc|apply qb);exact rvk;simp only [go_sem];first|exact VLe.refl _|apply qd|apply qa|apply qe|skip)
   |with_reducible first|refine And.intro ?_ ?_|intro _
  all_goals try exact clz
theorem eqS (a:List Str) (h:List AObj) (hn:a.length≤1000000000):qm Tryz.prog 22 [strs a,strs a] h (.bool true) h:=by
 have c:=qxh quG a.length a.length (fun j=> .s (a.getD j [])) (fun j=> .s (a.getD j [])) h (fun _ _ _=>rfl) (by omega) (by omega)
 rw [decide_eq_true ⟨rfl,fun _ _=>rfl⟩]at c
 exact c
theorem eqI (a:List Int) (h:List AObj) (hn:a.length≤1000000000):qm Tryz.prog 24 [ql a,ql a] h (.bool true) h:=by
 have c:=qxh qxm a.length a.length (fun j=> .i (a.getD j 0)) (fun j=> .i (a.getD j 0)) h (fun _ _ _=>rfl) (by omega) (by omega)
 rw [decide_eq_true ⟨rfl,fun _ _=>rfl⟩]at c
 exact c
def exN:List Str:= [[65],[66],[67]]
def exT:List Str:= [[100,101,117,115],[101,115,116]]
def exL:List En:= [⟨0,0,1,false,[],[⟨[[100,111,109,105,110,117,115]],[[66]]⟩]⟩,⟨0,2,2,false,[],[⟨[[118,101,114,101]],[[66],[67]]⟩]⟩]
def exA:List (List Str):= [[[100,101,117,115],[101,115,116]],[[100,111,109,105,110,117,115],[101,115,116],[118,101,114,101]],[[100,101,117,115],[101,115,116],[118,101,114,101]]]
theorem qtZ:rdE exN [] exT exL=0:=by decide+kernel
theorem qtW:qmc exN [] exT exL=exA:=by decide+kernel
theorem qt0:qx7 exN [] exT exL 2=exA.getD 2 []:=by decide+kernel
theorem qqS:qmh exN [] exT exL 2=0:=by decide+kernel
theorem qtY:qxc exN [] exT exL 1=2:=by decide+kernel
theorem qqR:qmh exN [] exT exL 1=0:=by decide+kernel
theorem qtX:qwJ exN [] exT exL= [0]:=by decide+kernel
theorem qm0:qeJ exN [] exT exL=false:=by decide+kernel
theorem qzY (h:List AObj):qm Tryz.prog 42 [] h (.tup [strs exN,strs exT,qz exL]) h:=by
 refine acO qxp ?_
 simp (disch:=omega) only [qyz,List.replicate,go_sem]
 repeat' first
  |((first|apply qc|apply qb);exact rvk;simp only [go_sem];first|exact VLe.refl _|apply qd|apply qa|apply qe|skip)
  |with_reducible first|refine And.intro ?_ ?_|intro _
 all_goals try exact clz
 have one: ∀ {f g:Nat→List AV},f 0=g 0→ILe (.sl 1 f) (.sl 1 g):=fun h=>ILe.sl_eq fun i hi=>by
  obtain rfl:i=0:=by omega
  exact h
 have two: ∀ {f g:Nat→List AV},f 0=g 0→f 1=g 1→ILe (.sl 2 f) (.sl 2 g):=fun h1 h2=>ILe.sl_eq fun i hi=>by
  match i,hi with
  |0,_=>exact h1
  |1,_=>exact h2
  |n+2,hi=>exact absurd hi (by omega)
 have one': ∀ {f g:Nat→List AV},qb6 (f 0) (g 0)→ILe (.sl 1 f) (.sl 1 g):=fun h=>ILe.sl fun i hi=>by
  obtain rfl:i=0:=by omega
  exact h
 refine qV ⟨VLe.sl_eq rfl (fun i hi=> ?_),VLe.sl_eq rfl (fun i hi=> ?_),VLe.sl (fun i hi=> ?_),trivial⟩
 ·match i,hi with
  |0,_=>rfl
  |1,_=>rfl
  |2,_=>rfl
  |n+3,hi=>exact absurd hi (by omega)
 ·match i,hi with
  |0,_=>rfl
  |1,_=>rfl
  |n+2,hi=>exact absurd hi (by omega)
 ·match i,hi with
  |0,_=>
   refine ⟨ILe.refl _,ILe.refl _,ILe.refl _,ILe.refl _,ILe.nl,?_,trivial⟩
   simp only [go_sem]
   refine one' ⟨?_,?_,trivial⟩
   ·simp only [go_sem]
    exact one rfl
   ·simp only [go_sem]
    exact one rfl
  |1,_=>
   refine ⟨ILe.refl _,ILe.refl _,ILe.refl _,ILe.refl _,ILe.nl,?_,trivial⟩
   simp only [go_sem]
   refine one' ⟨?_,?_,trivial⟩
   ·simp only [go_sem]
    exact one rfl
   ·simp only [go_sem]
    exact two rfl rfl
  |n+2,hi=>exact absurd hi (by omega)
end RC
end
section
open Go Go.Proofs AF HY LN
namespace RC
set_option maxHeartbeats 8000000
theorem qzf (names:List Str) (t:List Str) (l:List En):ki [strs names,.nl,strs t,qz l] [strs names,qt [],strs t,qz l]:=⟨VLe.refl _,zP,VLe.refl _,VLe.refl _,trivial⟩
theorem qvV (names:List Str) (t:List Str) (l:List En) (n:Int):ki [strs names,.nl,strs t,qz l,.int .i64 n] [strs names,qt [],strs t,qz l,.int .i64 n]:=⟨VLe.refl _,zP,VLe.refl _,VLe.refl _,VLe.refl _,trivial⟩
theorem qz0 {L:List (List Str)} {X:AV} {h:List AObj} (hv:ki ([jC L,X].map (rei (fun _=>true) h 8)) [jC L,jC L]) (hn:L.length≤1000000000) (hl: ∀i,(L.getD i []).length≤1000000000):qm Tryz.prog 23 [jC L,X] h (.bool true) h:=
 qm.borrow ((qy6 L [] hn hl).le hv (VLe.refl _)) rfl
theorem qzz {L:List Str} {X:AV} {h:List AObj} (hv:ki ([strs L,X].map (rei (fun _=>true) h 8)) [strs L,strs L]) (hn:L.length≤1000000000):qm Tryz.prog 22 [strs L,X] h (.bool true) h:=
 qm.borrow ((eqS L [] hn).le hv (VLe.refl _)) rfl
theorem qzy {L:List Int} {X:AV} {h:List AObj} (hv:ki ([ql L,X].map (rei (fun _=>true) h 8)) [ql L,ql L]) (hn:L.length≤1000000000):qm Tryz.prog 24 [ql L,X] h (.bool true) h:=
 qm.borrow ((eqI L [] hn).le hv (VLe.refl _)) rfl
theorem qzl (h:List AObj) (hp:kh SG h):qm Tryz.prog 11 [] h (.bool true) h:=by
 have hc:CSz exN [] exT exL:=qeK qm0
 have c42:=fun h=>qzY h
 have c14:=fun l=>(qp4 exN [] exT exL (h++l) hc (hp.app l)).le (qzf _ _ _) (VLe.refl _)
 have c12:=fun l=>(qx8 exN [] exT exL 2 (h++l) hc (hp.app l)).le (qvV _ _ _ _) (VLe.refl _)
 have c18:=fun l=>(qwK exN [] exT exL (h++l) hc (hp.app l)).le (qzf _ _ _) (VLe.refl _)
 have c16:=fun l=>(qxd exN [] exT exL 1 (h++l) hc (hp.app l)).le (qvV _ _ _ _) (VLe.refl _)
 have e0:opE 0=0:=rfl
 simp only [qtZ,qtW,e0]at c14
 simp only [qt0,qqS]at c12
 simp only [qtZ,qtX,e0]at c18
 simp only [qtY,qqR]at c16
 have zm:valP (.mm true) [.int .i64 0,.int .i64 0,.int .i64 0,.int .i64 0]= .int .i64 0:=rfl
 have zn:okP (.mm true) [.int .i64 0,.int .i64 0,.int .i64 0,.int .i64 0]=True:=eq_true (by simp [okP,kN])
 refine acO qxk ?_
 simp (disch:=omega) only [qyw,List.replicate,zm,zn,go_sem]
 repeat' first
  |((first|refine cA (c42 _) ?_ ?_|refine cG (fun e=>c42 _) ?_ ?_|refine cA (c14 _) ?_ ?_|refine cG (fun e=>c14 _) ?_ ?_|refine cA (c12 _) ?_ ?_|refine cG (fun e=>c12 _) ?_ ?_|refine cA (c18 _) ?_ ?_|refine cG (fun e=>c18 _) ?_ ?_|refine cA (c16 _) ?_ ?_|refine cG (fun e=>c16 _) ?_ ?_|refine cU (fun _=>c42 _) ?_ ?_|refine cU (fun _=>c14 _) ?_ ?_|refine cU (fun _=>c12 _) ?_ ?_|refine cU (fun _=>c18 _) ?_ ?_|refine cU (fun _=>c16 _) ?_ ?_);(next=>exact flk);simp (disch:=omega) only [zm,zn,go_sem])
  |((first|apply qc|apply qb);exact rvk;simp only [go_sem];first|exact VLe.refl _|apply qd|apply qa|apply qe|skip)
  |with_reducible first|refine And.intro ?_ ?_|intro _
 all_goals try exact clz
 refine cG (fun _=>qz0 (L:=exA) (X:= .osl (h.length+3) 1 1 0 3) ?s1 (by decide) ?s2) (fun _=>by exact flk) ?_
 case s2=>
  intro i
  match i with
  |0=>decide
  |1=>decide
  |2=>decide
  |n+3=>exact Nat.zero_le _
 case s1=>
  simp only [List.map_cons,List.map_nil,go_sem]
  refine ⟨VLe.refl _,VLe.sl (fun i hi=> ?_),trivial⟩
  match i,hi with
  |0,_=>
   refine ⟨?_,trivial⟩
   simp only [go_sem]
   refine ILe.sl_eq fun j hj=> ?_
   match j,hj with
   |0,_=>rfl
   |1,_=>rfl
   |n+2,hj=>exact absurd hj (by omega)
  |1,_=>
   refine ⟨?_,trivial⟩
   simp only [go_sem]
   refine ILe.sl_eq fun j hj=> ?_
   match j,hj with
   |0,_=>rfl
   |1,_=>rfl
   |2,_=>rfl
   |n+3,hj=>exact absurd hj (by omega)
  |2,_=>
   refine ⟨?_,trivial⟩
   simp only [go_sem]
   refine ILe.sl_eq fun j hj=> ?_
   match j,hj with
   |0,_=>rfl
   |1,_=>rfl
   |2,_=>rfl
   |n+3,hj=>exact absurd hj (by omega)
  |n+3,hi=>exact absurd hi (by omega)
 simp (disch:=omega) only [go_sem]
 repeat' first
  |((first|apply qc|apply qb);exact rvk;simp only [go_sem];first|exact VLe.refl _|apply qd|apply qa|apply qe|skip)
  |with_reducible first|refine And.intro ?_ ?_|intro _
 all_goals try exact clz
 refine cG (fun _=>qzz (L:=exA.getD 2 []) (X:= .osl (h.length+4) 1 1 0 3) ?s3 (by decide)) (fun _=>by exact flk) ?_
 case s3=>
  simp only [List.map_cons,List.map_nil,go_sem]
  refine ⟨VLe.refl _,VLe.sl_eq rfl (fun j hj=> ?_),trivial⟩
  match j,hj with
  |0,_=>rfl
  |1,_=>rfl
  |2,_=>rfl
  |n+3,hj=>exact absurd hj (by omega)
 simp (disch:=omega) only [go_sem]
 repeat' first
  |((first|apply qc|apply qb);exact rvk;simp only [go_sem];first|exact VLe.refl _|apply qd|apply qa|apply qe|skip)
  |with_reducible first|refine And.intro ?_ ?_|intro _
 all_goals try exact clz
 refine cG (fun _=>qzy (L:= [0]) (X:= .osl (h.length+5) 1 1 0 1) ?s4 (by decide)) (fun _=>by exact flk) ?_
 case s4=>
  simp only [List.map_cons,List.map_nil,go_sem]
  refine ⟨VLe.refl _,VLe.sl_eq rfl (fun j hj=> ?_),trivial⟩
  match j,hj with
  |0,_=>rfl
  |n+1,hj=>exact absurd hj (by omega)
 simp (disch:=omega) only [go_sem]
 repeat' first
  |((first|apply qc|apply qb);exact rvk;simp only [go_sem];first|exact VLe.refl _|apply qd|apply qa|apply qe|skip)
  |with_reducible first|refine And.intro ?_ ?_|intro _
 all_goals try exact clz
end RC
end
section
open Go Go.Proofs AF HY LN
namespace RC
set_option maxHeartbeats 8000000
theorem qoW {names:List Str} {gs:List Gr} {t:List Str} {l:List En} (hc:CSz names gs t l) (g:rdE names gs t l=0) {s:Nat} (hs:s<names.length):(qfj names gs t l (s:Int)).length≤30000:=by
 have ok:=(qcs.1 g).tx hs
 have hol:(ofE names gs l (s:Int)).length≤l.length:=by
  have:=List.length_filter_le (qai names gs (s:Int)) (z7 l)
  rw [j8]at this
  exact this
 have hwl: ∀i,i<(ofE names gs l (s:Int)).length→ ∀k,(((ofE names gs l (s:Int)).getD i default).vars.getD k default).words.length≤1000:=fun i hi k=>by
  obtain ⟨j,hj,e⟩:=List.getElem_of_mem (qeQ (zQ hi))
  have:=hc.wl j k
  rw [gdqA (l:=l),qU hj]at this
  rw [←e]
  exact this
 have h1:=qgf (t:=t) (names:=names) (gs:=gs) (src:=(s:Int)) hwl _ (Nat.le_refl _)
 rw [List.take_length]at h1
 have h2:(ofE names gs l (s:Int)).length*(t.length+1000)≤10*2000:=Nat.mul_le_mul (by have:=hc.ln;omega) (by have:=hc.tn;omega)
 have h3:(jB t (qb2 names gs t (s:Int) (ofE names gs l (s:Int))).2 t.length).length≤t.length:=by unfold jB;simp<;>omega
 have hR:qfj names gs t l (s:Int)=qhH names gs t (s:Int) (ofE names gs l (s:Int)) 0:=rfl
 rw [hR,←qge,List.length_append]
 have:=hc.tn
 omega
theorem qmk {names:List Str} {gs:List Gr} {t:List Str} {l:List En} {n i:Nat} (hi:i<n):(qhX names gs t l n).getD i []=qfj names gs t l (i:Int):=by
 unfold qhX
 rw [gdqA,List.getElem?_map,List.getElem?_range hi]
 rfl
theorem qfB {names:List Str} {gs:List Gr} {t:List Str} {l:List En} (hc:CSz names gs t l):(qmc names gs t l).length≤1000∧ ∀i,((qmc names gs t l).getD i []).length≤30000:=by
 unfold qmc
 split
 ·rename_i g
  refine ⟨by rw [qcD];exact hc.nn,fun i=> ?_⟩
  by_cases hi:i<names.length
  ·rw [qmk hi];exact qoW hc g hi
  ·rw [gdqA,List.getElem?_eq_none (by rw [qcD];omega)]
   exact Nat.zero_le _
 ·exact ⟨Nat.zero_le _,fun i=>Nat.zero_le _⟩
end RC
end
section
open Go Go.Proofs AF HY LN
namespace RC
set_option maxHeartbeats 8000000
theorem fnP (names:List Str) (gs:List Gr) (t:List Str) (l:List En) (h:List AObj) (hb:CB names gs t l) (hp:kh SG h):
  qm Tryz.prog 25 [.agg (zW names gs t l)] h (.bool (!qeJ names gs t l&&decide (rdE names gs t l=0))) h:=by
 have c10:=fun h=>qzI names gs t l h hb
 unfold zW at c10
 cases hg:qeJ names gs t l with
 |true=>
  rw [hg]at c10
  refine acO quH ?_
  simp (disch:=omega) only [qwP,List.replicate,zW,go_sem]
  repeat' first
   |(refine qo (.int .i64 0) ?_;simp (disch:=omega) only [zW,go_sem])
   |((first|refine cA (c10 _) ?_ ?_|refine cG (fun e=>c10 _) ?_ ?_|refine cU (fun _=>c10 _) ?_ ?_);(next=>exact flk);simp (disch:=omega) only [zW,go_sem])
   |((first|apply qc|apply qb);exact rvk;simp only [go_sem];first|exact VLe.refl _|apply qd|apply qa|apply qe|skip)
   |with_reducible first|refine And.intro ?_ ?_|intro _
  all_goals try exact clz
 |false=>
  rw [hg]at c10
  have c21:=fun l'=>qtF names gs t l (h++l') (qeK hg) (hp.app l')
  refine acO quH ?_
  simp (disch:=omega) only [qwP,List.replicate,zW,go_sem]
  repeat' first
   |((first|refine cA (c10 _) ?_ ?_|refine cG (fun e=>c10 _) ?_ ?_|refine cA (c21 _) ?_ ?_|refine cG (fun e=>c21 _) ?_ ?_|refine cU (fun _=>c10 _) ?_ ?_|refine cU (fun _=>c21 _) ?_ ?_);(next=>exact flk);simp (disch:=omega) only [zW,go_sem])
   |((first|apply qc|apply qb);exact rvk;simp only [go_sem];first|exact VLe.refl _|apply qd|apply qa|apply qe|skip)
   |with_reducible first|refine And.intro ?_ ?_|intro _
  all_goals try exact clz
end RC
namespace RC
set_option maxHeartbeats 8000000
end RC
end
section
open Go Go.Proofs AF
end
section
open Go Go.Proofs AF HY LN
namespace AF
structure qsL (E:AV) (n:Nat) (cs:List AV):Prop where
 fl:E.flag=true
 st:E.strip=E
 vl: ∀g,valL g .len [E]= .int .i64 n
 ok: ∀g,okL g .len [E]=True
 sc: ∀g,qr g E=some (n,cs)
 ap: ∀k v z p m,qa4 (.osl k v z p m) E=true
theorem qsL.sl (n:Nat) (f:Nat→List AV):qsL (.sl n f) n ((List.range n).flatMap f):=⟨rfl,rfl,fun _=>rfl,fun _=>eq_true trivial,fun _=>rfl,fun _ _ _ _ _=>rfl⟩
structure Src (h:List AObj) (e:AV) (n:Nat) (cs:List AV):Prop where
 flag:e.flag=true
 strip:e.strip=e
 lenOk: ∀X,okL (h++X) .len [e]=True
 len: ∀X,valL (h++X) .len [e]= .int .i64 n
 cells: ∀X,qr (h++X) e=some (n,cs)
 apart: ∀k v z p m,h.length≤k→qa4 (.osl k v z p m) e=true
end AF
namespace RC
set_option maxHeartbeats 8000000
theorem qmY {L:List En} {n:Nat} {fz:Nat→Bool} {h:List AObj} {d:Nat} (hn:n=L.length):VLe (.sl n fun i=>(((jv L).drop (i*6)).take 6).map (rei fz h (d+1))) (qz L):=by
 subst hn
 refine VLe.sl_eq rfl (fun i hi=> ?_)
 rw [qby hi]
 rfl
theorem qsL.strs (L:List Str):qsL (strs L) L.length (jp L):=⟨rfl,rfl,fun _=>rfl,fun _=>eq_true trivial,fun g=>qga g L,fun _ _ _ _ _=>rfl⟩
theorem qsL.sub {t:List Str} {a b:Nat} (h1:a≤b) (h2:b≤t.length):qsL (.sl (b-a) fun i=> [.str (t.getD (a+i) [])]) (jB t a b).length (jp (jB t a b)):=by
 rw [qbG h1 h2]
 exact ⟨rfl,rfl,fun _=>rfl,fun _=>eq_true trivial,fun g=>qe8 g h1 h2,fun _ _ _ _ _=>rfl⟩
end RC
end
