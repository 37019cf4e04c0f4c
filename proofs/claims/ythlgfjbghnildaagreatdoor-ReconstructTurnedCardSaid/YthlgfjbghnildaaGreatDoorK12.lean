import Derived.Test.YthlgfjbghnildaaGreatDoorK11
import Derived.Test.YthlgfjbghnildaaGreatDoorK2
import Derived.Test.YthlgfjbghnildaaGreatDoorK4
import Derived.Test.YthlgfjbghnildaaGreatDoorK7
import Derived.Test.YthlgfjbghnildaaGreatDoorProg
set_option linter.all false
set_option linter.unusedSimpArgs false
set_option linter.unusedVariables false
set_option linter.unusedSectionVars false
set_option maxRecDepth 100000
section
open Go Go.Proofs AF HY LN
namespace RC
set_option maxHeartbeats 8000000
def grB (g:Gr):Bool:=decide (20<g.name.length)||decide (40<g.mem.length)
def qpz (names:List Str) (gs:List Gr):Bool:=
 jb (fun i=>decide (20<(names.getD i []).length)) names.length||(jb (fun i=>grB (gs.getD i default)) gs.length||
  (((decide (8<names.length)&&decide (names.length≤32))||decide (34<names.length))||(decide (5<gs.length)&&decide (gs.length≤16))||decide (18<gs.length)))
theorem qzE (names:List Str) (gs:List Gr) (h:List AObj) (hn:names.length≤9223372036854775807) (hg:gs.length≤9223372036854775807):qm Tryz.prog 72 [strs names,qt gs] h (.bool (qpz names gs)) h:=by
 obtain ⟨R,hR⟩: ∃R,R=qpz names gs:=⟨_,rfl⟩
 rw [←hR]
 unfold qpz at hR
 refine acO qxA ?_
 simp (disch:=omega) only [qyJ,List.replicate,strs,qt,go_sem]
 repeat' first
  |((first|apply qc|apply qb);exact rvk;simp only [go_sem];first|exact VLe.refl _|apply qd|apply qa|apply qe|skip)
  |with_reducible first|refine And.intro ?_ ?_|intro _
 all_goals try exact clz
 refine qn (T:=fun i:Nat=>qI 69 [(0,strs names),(1,qt gs),(5,.int .i64 i)]) (H:=fun _=>h) (inv:=fun i=>i≤names.length∧ ∀j,j<i→(fun i=>decide (20<(names.getD i []).length)) j=false) (m:=fun i=>names.length-i) 0 ⟨Nat.zero_le _,fun j hj=>by omega⟩ (Wk.temps ?_) ?_
 ·(simp only [strs,qt,List.replicate,go_sem,qj,qh,qg,qi];try (repeat' first|(with_reducible refine And.intro ?_ ?_)|(apply qd;omega)|(apply qa;rfl)|exact VLe.refl _))
 rintro i ⟨i1,i2⟩ K hK
 by_cases hi:i<names.length
 ·have k1:((i:Int)<names.length)=True:=eq_true (by omega)
  by_cases g:20<(names.getD i []).length
  ·have hV:R=true:=by rw [hR,za.2 ⟨i,hi,decide_eq_true g⟩];rfl
   obtain ⟨s,hs⟩: ∃s,s=names.getD i []:=⟨_,rfl⟩
   have es:=hs.symm
   rw [es]at g
   have k2:((20:Int)<s.length)=True:=eq_true (by omega)
   rw [hV]
   simp (disch:=omega) only [List.replicate,strs,qt,k1,k2,es,go_sem]
   repeat' first
    |((first|apply qc|apply qb);exact rvk;simp only [go_sem];first|exact VLe.refl _|apply qd|apply qa|apply qe|skip)
    |with_reducible first|refine And.intro ?_ ?_|intro _
   all_goals try exact clz
  ·have i3:=kJ i2 (decide_eq_false g)
   obtain ⟨s,hs⟩: ∃s,s=names.getD i []:=⟨_,rfl⟩
   have es:=hs.symm
   rw [es]at g
   have k2:((20:Int)<s.length)=False:=eq_false (by omega)
   simp (disch:=omega) only [List.replicate,strs,qt,k1,k2,es,go_sem]
   repeat' first
    |((first|apply qc|apply qb);exact rvk;simp only [go_sem];first|exact VLe.refl _|apply qd|apply qa|apply qe|skip)
    |with_reducible first|refine And.intro ?_ ?_|intro _
   all_goals try exact clz
   refine hK _ _ (i+1) ⟨hi,i3⟩ (by omega) (Wk.temps ?_)
   (simp only [strs,qt,List.replicate,go_sem,qj,qh,qg,qi];try (repeat' first|(with_reducible refine And.intro ?_ ?_)|(apply qd;omega)|(apply qa;rfl)|exact VLe.refl _))
 have k1:((i:Int)<names.length)=False:=eq_false (by omega)
 rw [qE.2 (fun j hj=>i2 j (by omega)),Bool.false_or]at hR
 simp (disch:=omega) only [List.replicate,strs,qt,k1,go_sem]
 repeat' first
  |((first|apply qc|apply qb);exact rvk;simp only [go_sem];first|exact VLe.refl _|apply qd|apply qa|apply qe|skip)
  |with_reducible first|refine And.intro ?_ ?_|intro _
 all_goals try exact clz
 refine qn (T:=fun i:Nat=>qI 69 [(0,strs names),(1,qt gs),(6,.int .i64 i)]) (H:=fun _=>h) (inv:=fun i=>i≤gs.length∧ ∀j,j<i→(fun i=>grB (gs.getD i default)) j=false) (m:=fun i=>gs.length-i) 0 ⟨Nat.zero_le _,fun j hj=>by omega⟩ (Wk.temps ?_) ?_
 ·(simp only [strs,qt,List.replicate,go_sem,qj,qh,qg,qi];try (repeat' first|(with_reducible refine And.intro ?_ ?_)|(apply qd;omega)|(apply qa;rfl)|exact VLe.refl _))
 clear hK K
 rintro i ⟨i1,i2⟩ K hK
 by_cases hi:i<gs.length
 ·have k1:((i:Int)<gs.length)=True:=eq_true (by omega)
  have hit:grB (gs.getD i default)=true→R=true:=fun hc=>by rw [hR,za.2 ⟨i,hi,hc⟩];rfl
  have i3:=fun hc=>kJ (p:=fun i=>grB (gs.getD i default)) i2 hc
  obtain ⟨g,hg⟩: ∃g,g=gs.getD i default:=⟨_,rfl⟩
  have eg:=hg.symm
  simp only [eg]at hit i3
  have hB:grB g=(decide (20<g.name.length)||decide (40<g.mem.length)):=rfl
  by_cases g1:20<g.name.length
  ·have k2:((20:Int)<g.name.length)=True:=eq_true (by omega)
   rw [hit (by rw [hB,decide_eq_true g1];rfl)]
   simp (disch:=omega) only [List.replicate,strs,qt,grC,k1,k2,eg,go_sem]
   repeat' first
    |((first|apply qc|apply qb);exact rvk;simp only [go_sem];first|exact VLe.refl _|apply qd|apply qa|apply qe|skip)
    |with_reducible first|refine And.intro ?_ ?_|intro _
   all_goals try exact clz
  ·have k2:((20:Int)<g.name.length)=False:=eq_false (by omega)
   by_cases g2:40<g.mem.length
   ·have k3:((40:Int)<g.mem.length)=True:=eq_true (by omega)
    rw [hit (by rw [hB,decide_eq_true g2,Bool.or_true])]
    simp (disch:=omega) only [List.replicate,strs,qt,grC,ql,k1,k2,k3,eg,go_sem]
    repeat' first
     |((first|apply qc|apply qb);exact rvk;simp only [go_sem];first|exact VLe.refl _|apply qd|apply qa|apply qe|skip)
     |with_reducible first|refine And.intro ?_ ?_|intro _
    all_goals try exact clz
   ·have k3:((40:Int)<g.mem.length)=False:=eq_false (by omega)
    simp (disch:=omega) only [List.replicate,strs,qt,grC,ql,k1,k2,k3,eg,go_sem]
    repeat' first
     |((first|apply qc|apply qb);exact rvk;simp only [go_sem];first|exact VLe.refl _|apply qd|apply qa|apply qe|skip)
     |with_reducible first|refine And.intro ?_ ?_|intro _
    all_goals try exact clz
    refine hK _ _ (i+1) ⟨hi,i3 (by rw [hB,decide_eq_false g1,decide_eq_false g2];rfl)⟩ (by omega) (Wk.temps ?_)
    (simp only [strs,qt,List.replicate,go_sem,qj,qh,qg,qi];try (repeat' first|(with_reducible refine And.intro ?_ ?_)|(apply qd;omega)|(apply qa;rfl)|exact VLe.refl _))
 have k2:((i:Int)<gs.length)=False:=eq_false (by omega)
 rw [qE.2 (fun j hj=>i2 j (by omega)),Bool.false_or]at hR
 have n1:((8:Int)<names.length)=(8<names.length):=propext (by omega)
 have n2:((names.length:Int)≤32)=(names.length≤32):=propext (by omega)
 have n3:((34:Int)<names.length)=(34<names.length):=propext (by omega)
 have n4:((5:Int)<gs.length)=(5<gs.length):=propext (by omega)
 have n5:((gs.length:Int)≤16)=(gs.length≤16):=propext (by omega)
 have n6:((18:Int)<gs.length)=(18<gs.length):=propext (by omega)
 obtain ⟨q1,h1⟩: ∃q,q=decide (8<names.length):=⟨_,rfl⟩
 obtain ⟨q2,h2⟩: ∃q,q=decide (names.length≤32):=⟨_,rfl⟩
 obtain ⟨q3,h3⟩: ∃q,q=decide (34<names.length):=⟨_,rfl⟩
 obtain ⟨q4,h4⟩: ∃q,q=decide (5<gs.length):=⟨_,rfl⟩
 obtain ⟨q5,h5⟩: ∃q,q=decide (gs.length≤16):=⟨_,rfl⟩
 obtain ⟨q6,h6⟩: ∃q,q=decide (18<gs.length):=⟨_,rfl⟩
 have e1:=h1.symm
 have e2:=h2.symm
 have e3:=h3.symm
 have e4:=h4.symm
 have e5:=h5.symm
 have e6:=h6.symm
 rw [e1,e2,e3,e4,e5,e6]at hR
 have b1:(q1=true∧q2=true)∨(q1=false∧q2=true)∨(q1=true∧q2=false)∨(q1=false∧q2=false):=by cases q1<;>cases q2<;>simp
 have b4:(q4=true∧q5=true)∨(q4=false∧q5=true)∨(q4=true∧q5=false)∨(q4=false∧q5=false):=by cases q4<;>cases q5<;>simp
 clear h1 h2 h3 h4 h5 h6
 rcases b1 with ⟨rfl,rfl⟩|⟨rfl,rfl⟩|⟨rfl,rfl⟩|⟨rfl,rfl⟩
 ·skip
  simp only [Bool.true_and,Bool.false_and,Bool.true_or,Bool.false_or]at hR
  rw [hR]
  simp (disch:=omega) only [List.replicate,strs,qt,k2,n1,n2,n3,n4,n5,n6,e1,e2,e3,e4,e5,e6,go_sem]
  repeat' first
   |((first|apply qc|apply qb);exact rvk;simp only [go_sem];first|exact VLe.refl _|apply qd|apply qa|apply qe|skip)
   |with_reducible first|refine And.intro ?_ ?_|intro _
  all_goals try exact clz
 ·skip
  cases q3 with
  |true=>
   simp only [Bool.true_and,Bool.false_and,Bool.true_or,Bool.false_or]at hR
   rw [hR]
   simp (disch:=omega) only [List.replicate,strs,qt,k2,n1,n2,n3,n4,n5,n6,e1,e2,e3,e4,e5,e6,go_sem]
   repeat' first
    |((first|apply qc|apply qb);exact rvk;simp only [go_sem];first|exact VLe.refl _|apply qd|apply qa|apply qe|skip)
    |with_reducible first|refine And.intro ?_ ?_|intro _
   all_goals try exact clz
  |false=>
   rcases b4 with ⟨rfl,rfl⟩|⟨rfl,rfl⟩|⟨rfl,rfl⟩|⟨rfl,rfl⟩
   ·skip
    simp only [Bool.true_and,Bool.false_and,Bool.true_or,Bool.false_or]at hR
    rw [hR]
    simp (disch:=omega) only [List.replicate,strs,qt,k2,n1,n2,n3,n4,n5,n6,e1,e2,e3,e4,e5,e6,go_sem]
    repeat' first
     |((first|apply qc|apply qb);exact rvk;simp only [go_sem];first|exact VLe.refl _|apply qd|apply qa|apply qe|skip)
     |with_reducible first|refine And.intro ?_ ?_|intro _
    all_goals try exact clz
   ·skip
    cases q6 with
    |true=>
     simp only [Bool.true_and,Bool.false_and,Bool.true_or,Bool.false_or]at hR
     rw [hR]
     simp (disch:=omega) only [List.replicate,strs,qt,k2,n1,n2,n3,n4,n5,n6,e1,e2,e3,e4,e5,e6,go_sem]
     repeat' first
      |((first|apply qc|apply qb);exact rvk;simp only [go_sem];first|exact VLe.refl _|apply qd|apply qa|apply qe|skip)
      |with_reducible first|refine And.intro ?_ ?_|intro _
     all_goals try exact clz
    |false=>
     simp only [Bool.true_and,Bool.false_and,Bool.true_or,Bool.false_or]at hR
     rw [hR]
     simp (disch:=omega) only [List.replicate,strs,qt,k2,n1,n2,n3,n4,n5,n6,e1,e2,e3,e4,e5,e6,go_sem]
     repeat' first
      |((first|apply qc|apply qb);exact rvk;simp only [go_sem];first|exact VLe.refl _|apply qd|apply qa|apply qe|skip)
      |with_reducible first|refine And.intro ?_ ?_|intro _
     all_goals try exact clz
   ·skip
    cases q6 with
    |true=>
     simp only [Bool.true_and,Bool.false_and,Bool.true_or,Bool.false_or]at hR
     rw [hR]
     simp (disch:=omega) only [List.replicate,strs,qt,k2,n1,n2,n3,n4,n5,n6,e1,e2,e3,e4,e5,e6,go_sem]
     repeat' first
      |((first|apply qc|apply qb);exact rvk;simp only [go_sem];first|exact VLe.refl _|apply qd|apply qa|apply qe|skip)
      |with_reducible first|refine And.intro ?_ ?_|intro _
     all_goals try exact clz
    |false=>
     simp only [Bool.true_and,Bool.false_and,Bool.true_or,Bool.false_or]at hR
     rw [hR]
     simp (disch:=omega) only [List.replicate,strs,qt,k2,n1,n2,n3,n4,n5,n6,e1,e2,e3,e4,e5,e6,go_sem]
     repeat' first
      |((first|apply qc|apply qb);exact rvk;simp only [go_sem];first|exact VLe.refl _|apply qd|apply qa|apply qe|skip)
      |with_reducible first|refine And.intro ?_ ?_|intro _
     all_goals try exact clz
   ·skip
    cases q6 with
    |true=>
     simp only [Bool.true_and,Bool.false_and,Bool.true_or,Bool.false_or]at hR
     rw [hR]
     simp (disch:=omega) only [List.replicate,strs,qt,k2,n1,n2,n3,n4,n5,n6,e1,e2,e3,e4,e5,e6,go_sem]
     repeat' first
      |((first|apply qc|apply qb);exact rvk;simp only [go_sem];first|exact VLe.refl _|apply qd|apply qa|apply qe|skip)
      |with_reducible first|refine And.intro ?_ ?_|intro _
     all_goals try exact clz
    |false=>
     simp only [Bool.true_and,Bool.false_and,Bool.true_or,Bool.false_or]at hR
     rw [hR]
     simp (disch:=omega) only [List.replicate,strs,qt,k2,n1,n2,n3,n4,n5,n6,e1,e2,e3,e4,e5,e6,go_sem]
     repeat' first
      |((first|apply qc|apply qb);exact rvk;simp only [go_sem];first|exact VLe.refl _|apply qd|apply qa|apply qe|skip)
      |with_reducible first|refine And.intro ?_ ?_|intro _
     all_goals try exact clz
 ·skip
  cases q3 with
  |true=>
   simp only [Bool.true_and,Bool.false_and,Bool.true_or,Bool.false_or]at hR
   rw [hR]
   simp (disch:=omega) only [List.replicate,strs,qt,k2,n1,n2,n3,n4,n5,n6,e1,e2,e3,e4,e5,e6,go_sem]
   repeat' first
    |((first|apply qc|apply qb);exact rvk;simp only [go_sem];first|exact VLe.refl _|apply qd|apply qa|apply qe|skip)
    |with_reducible first|refine And.intro ?_ ?_|intro _
   all_goals try exact clz
  |false=>
   rcases b4 with ⟨rfl,rfl⟩|⟨rfl,rfl⟩|⟨rfl,rfl⟩|⟨rfl,rfl⟩
   ·skip
    simp only [Bool.true_and,Bool.false_and,Bool.true_or,Bool.false_or]at hR
    rw [hR]
    simp (disch:=omega) only [List.replicate,strs,qt,k2,n1,n2,n3,n4,n5,n6,e1,e2,e3,e4,e5,e6,go_sem]
    repeat' first
     |((first|apply qc|apply qb);exact rvk;simp only [go_sem];first|exact VLe.refl _|apply qd|apply qa|apply qe|skip)
     |with_reducible first|refine And.intro ?_ ?_|intro _
    all_goals try exact clz
   ·skip
    cases q6 with
    |true=>
     simp only [Bool.true_and,Bool.false_and,Bool.true_or,Bool.false_or]at hR
     rw [hR]
     simp (disch:=omega) only [List.replicate,strs,qt,k2,n1,n2,n3,n4,n5,n6,e1,e2,e3,e4,e5,e6,go_sem]
     repeat' first
      |((first|apply qc|apply qb);exact rvk;simp only [go_sem];first|exact VLe.refl _|apply qd|apply qa|apply qe|skip)
      |with_reducible first|refine And.intro ?_ ?_|intro _
     all_goals try exact clz
    |false=>
     simp only [Bool.true_and,Bool.false_and,Bool.true_or,Bool.false_or]at hR
     rw [hR]
     simp (disch:=omega) only [List.replicate,strs,qt,k2,n1,n2,n3,n4,n5,n6,e1,e2,e3,e4,e5,e6,go_sem]
     repeat' first
      |((first|apply qc|apply qb);exact rvk;simp only [go_sem];first|exact VLe.refl _|apply qd|apply qa|apply qe|skip)
      |with_reducible first|refine And.intro ?_ ?_|intro _
     all_goals try exact clz
   ·skip
    cases q6 with
    |true=>
     simp only [Bool.true_and,Bool.false_and,Bool.true_or,Bool.false_or]at hR
     rw [hR]
     simp (disch:=omega) only [List.replicate,strs,qt,k2,n1,n2,n3,n4,n5,n6,e1,e2,e3,e4,e5,e6,go_sem]
     repeat' first
      |((first|apply qc|apply qb);exact rvk;simp only [go_sem];first|exact VLe.refl _|apply qd|apply qa|apply qe|skip)
      |with_reducible first|refine And.intro ?_ ?_|intro _
     all_goals try exact clz
    |false=>
     simp only [Bool.true_and,Bool.false_and,Bool.true_or,Bool.false_or]at hR
     rw [hR]
     simp (disch:=omega) only [List.replicate,strs,qt,k2,n1,n2,n3,n4,n5,n6,e1,e2,e3,e4,e5,e6,go_sem]
     repeat' first
      |((first|apply qc|apply qb);exact rvk;simp only [go_sem];first|exact VLe.refl _|apply qd|apply qa|apply qe|skip)
      |with_reducible first|refine And.intro ?_ ?_|intro _
     all_goals try exact clz
   ·skip
    cases q6 with
    |true=>
     simp only [Bool.true_and,Bool.false_and,Bool.true_or,Bool.false_or]at hR
     rw [hR]
     simp (disch:=omega) only [List.replicate,strs,qt,k2,n1,n2,n3,n4,n5,n6,e1,e2,e3,e4,e5,e6,go_sem]
     repeat' first
      |((first|apply qc|apply qb);exact rvk;simp only [go_sem];first|exact VLe.refl _|apply qd|apply qa|apply qe|skip)
      |with_reducible first|refine And.intro ?_ ?_|intro _
     all_goals try exact clz
    |false=>
     simp only [Bool.true_and,Bool.false_and,Bool.true_or,Bool.false_or]at hR
     rw [hR]
     simp (disch:=omega) only [List.replicate,strs,qt,k2,n1,n2,n3,n4,n5,n6,e1,e2,e3,e4,e5,e6,go_sem]
     repeat' first
      |((first|apply qc|apply qb);exact rvk;simp only [go_sem];first|exact VLe.refl _|apply qd|apply qa|apply qe|skip)
      |with_reducible first|refine And.intro ?_ ?_|intro _
     all_goals try exact clz
 ·skip
  cases q3 with
  |true=>
   simp only [Bool.true_and,Bool.false_and,Bool.true_or,Bool.false_or]at hR
   rw [hR]
   simp (disch:=omega) only [List.replicate,strs,qt,k2,n1,n2,n3,n4,n5,n6,e1,e2,e3,e4,e5,e6,go_sem]
   repeat' first
    |((first|apply qc|apply qb);exact rvk;simp only [go_sem];first|exact VLe.refl _|apply qd|apply qa|apply qe|skip)
    |with_reducible first|refine And.intro ?_ ?_|intro _
   all_goals try exact clz
  |false=>
   rcases b4 with ⟨rfl,rfl⟩|⟨rfl,rfl⟩|⟨rfl,rfl⟩|⟨rfl,rfl⟩
   ·skip
    simp only [Bool.true_and,Bool.false_and,Bool.true_or,Bool.false_or]at hR
    rw [hR]
    simp (disch:=omega) only [List.replicate,strs,qt,k2,n1,n2,n3,n4,n5,n6,e1,e2,e3,e4,e5,e6,go_sem]
    repeat' first
     |((first|apply qc|apply qb);exact rvk;simp only [go_sem];first|exact VLe.refl _|apply qd|apply qa|apply qe|skip)
     |with_reducible first|refine And.intro ?_ ?_|intro _
    all_goals try exact clz
   ·skip
    cases q6 with
    |true=>
     simp only [Bool.true_and,Bool.false_and,Bool.true_or,Bool.false_or]at hR
     rw [hR]
     simp (disch:=omega) only [List.replicate,strs,qt,k2,n1,n2,n3,n4,n5,n6,e1,e2,e3,e4,e5,e6,go_sem]
     repeat' first
      |((first|apply qc|apply qb);exact rvk;simp only [go_sem];first|exact VLe.refl _|apply qd|apply qa|apply qe|skip)
      |with_reducible first|refine And.intro ?_ ?_|intro _
     all_goals try exact clz
    |false=>
     simp only [Bool.true_and,Bool.false_and,Bool.true_or,Bool.false_or]at hR
     rw [hR]
     simp (disch:=omega) only [List.replicate,strs,qt,k2,n1,n2,n3,n4,n5,n6,e1,e2,e3,e4,e5,e6,go_sem]
     repeat' first
      |((first|apply qc|apply qb);exact rvk;simp only [go_sem];first|exact VLe.refl _|apply qd|apply qa|apply qe|skip)
      |with_reducible first|refine And.intro ?_ ?_|intro _
     all_goals try exact clz
   ·skip
    cases q6 with
    |true=>
     simp only [Bool.true_and,Bool.false_and,Bool.true_or,Bool.false_or]at hR
     rw [hR]
     simp (disch:=omega) only [List.replicate,strs,qt,k2,n1,n2,n3,n4,n5,n6,e1,e2,e3,e4,e5,e6,go_sem]
     repeat' first
      |((first|apply qc|apply qb);exact rvk;simp only [go_sem];first|exact VLe.refl _|apply qd|apply qa|apply qe|skip)
      |with_reducible first|refine And.intro ?_ ?_|intro _
     all_goals try exact clz
    |false=>
     simp only [Bool.true_and,Bool.false_and,Bool.true_or,Bool.false_or]at hR
     rw [hR]
     simp (disch:=omega) only [List.replicate,strs,qt,k2,n1,n2,n3,n4,n5,n6,e1,e2,e3,e4,e5,e6,go_sem]
     repeat' first
      |((first|apply qc|apply qb);exact rvk;simp only [go_sem];first|exact VLe.refl _|apply qd|apply qa|apply qe|skip)
      |with_reducible first|refine And.intro ?_ ?_|intro _
     all_goals try exact clz
   ·skip
    cases q6 with
    |true=>
     simp only [Bool.true_and,Bool.false_and,Bool.true_or,Bool.false_or]at hR
     rw [hR]
     simp (disch:=omega) only [List.replicate,strs,qt,k2,n1,n2,n3,n4,n5,n6,e1,e2,e3,e4,e5,e6,go_sem]
     repeat' first
      |((first|apply qc|apply qb);exact rvk;simp only [go_sem];first|exact VLe.refl _|apply qd|apply qa|apply qe|skip)
      |with_reducible first|refine And.intro ?_ ?_|intro _
     all_goals try exact clz
    |false=>
     simp only [Bool.true_and,Bool.false_and,Bool.true_or,Bool.false_or]at hR
     rw [hR]
     simp (disch:=omega) only [List.replicate,strs,qt,k2,n1,n2,n3,n4,n5,n6,e1,e2,e3,e4,e5,e6,go_sem]
     repeat' first
      |((first|apply qc|apply qb);exact rvk;simp only [go_sem];first|exact VLe.refl _|apply qd|apply qa|apply qe|skip)
      |with_reducible first|refine And.intro ?_ ?_|intro _
     all_goals try exact clz
def zW (names:List Str) (gs:List Gr) (t:List Str) (l:List En):List AV:= [strs names,qt gs,strs t,qz l]
structure CB (names:List Str) (gs:List Gr) (t:List Str) (l:List En):Prop where
 hn:names.length≤9223372036854775807
 hg:gs.length≤9223372036854775807
 ht:t.length≤9223372036854775807
 hl:l.length≤9223372036854775807
 he: ∀i,EnB (l.getD i default)
def qeJ (names:List Str) (gs:List Gr) (t:List Str) (l:List En):Bool:=jb (fun i=>decide (70<(t.getD i []).length)) t.length||((qpz names gs||decide (24<t.length))||qsP l)
theorem qzG (names:List Str) (gs:List Gr) (t:List Str) (l:List En) (h:List AObj) (hb:CB names gs t l):qm Tryz.prog 41 [strs names,qt gs,strs t,qz l] h (.bool (qeJ names gs t l)) h:=by
 have c72:=fun h=>qzE names gs h hb.hn hb.hg
 have c73:=fun h=>qzF l h hb.he hb.hl
 have ht:=hb.ht
 obtain ⟨R,hR⟩: ∃R,R=qeJ names gs t l:=⟨_,rfl⟩
 rw [←hR]
 unfold qeJ at hR
 refine acO qxo ?_
 simp (disch:=omega) only [qyy,List.replicate,go_sem]
 repeat' first
  |((first|apply qc|apply qb);exact rvk;simp only [go_sem];first|exact VLe.refl _|apply qd|apply qa|apply qe|skip)
  |with_reducible first|refine And.intro ?_ ?_|intro _
 all_goals try exact clz
 refine qn (T:=fun i:Nat=>qI 34 [(0,strs names),(1,qt gs),(2,strs t),(3,qz l),(9,.int .i64 i)]) (H:=fun _=>h) (inv:=fun i=>i≤t.length∧ ∀j,j<i→(fun i=>decide (70<(t.getD i []).length)) j=false) (m:=fun i=>t.length-i) 0 ⟨Nat.zero_le _,fun j hj=>by omega⟩ (Wk.temps ?_) ?_
 ·(simp only [List.replicate,go_sem,qj,qh,qg,qi];try (repeat' first|(with_reducible refine And.intro ?_ ?_)|(apply qd;omega)|(apply qa;rfl)|exact VLe.refl _))
 rintro i ⟨i1,i2⟩ K hK
 by_cases hi:i<t.length
 ·have k1:((i:Int)<t.length)=True:=eq_true (by omega)
  by_cases g:70<(t.getD i []).length
  ·have hV:R=true:=by rw [hR,za.2 ⟨i,hi,decide_eq_true g⟩];rfl
   obtain ⟨s,hs⟩: ∃s,s=t.getD i []:=⟨_,rfl⟩
   have es:=hs.symm
   rw [es]at g
   have k2:((70:Int)<s.length)=True:=eq_true (by omega)
   rw [hV]
   simp (disch:=omega) only [List.replicate,strs,k1,k2,es,go_sem]
   repeat' first
    |((first|apply qc|apply qb);exact rvk;simp only [go_sem];first|exact VLe.refl _|apply qd|apply qa|apply qe|skip)
    |with_reducible first|refine And.intro ?_ ?_|intro _
   all_goals try exact clz
  ·have i3:=kJ i2 (decide_eq_false g)
   obtain ⟨s,hs⟩: ∃s,s=t.getD i []:=⟨_,rfl⟩
   have es:=hs.symm
   rw [es]at g
   have k2:((70:Int)<s.length)=False:=eq_false (by omega)
   simp (disch:=omega) only [List.replicate,strs,k1,k2,es,go_sem]
   repeat' first
    |((first|apply qc|apply qb);exact rvk;simp only [go_sem];first|exact VLe.refl _|apply qd|apply qa|apply qe|skip)
    |with_reducible first|refine And.intro ?_ ?_|intro _
   all_goals try exact clz
   refine hK _ _ (i+1) ⟨hi,i3⟩ (by omega) (Wk.temps ?_)
   (simp only [strs,List.replicate,go_sem,qj,qh,qg,qi];try (repeat' first|(with_reducible refine And.intro ?_ ?_)|(apply qd;omega)|(apply qa;rfl)|exact VLe.refl _))
 have k1:((i:Int)<t.length)=False:=eq_false (by omega)
 rw [qE.2 (fun j hj=>i2 j (by omega)),Bool.false_or]at hR
 have zl: ∀g,valL g .len [strs t]= .int .i64 t.length:=fun _=>rfl
 have zo: ∀g,okL g .len [strs t]=True:=fun _=>eq_true trivial
 cases g1:qpz names gs with
 |true=>
  rw [g1]at hR
  simp only [g1]at c72
  rw [hR]
  simp (disch:=omega) only [List.replicate,zl,zo,k1,go_sem]
  repeat' first
   |(refine qo (.bool true) ?_;simp (disch:=omega) only [zl,zo,k1,go_sem])
   |((first|refine cA (c72 _) ?_ ?_|refine cG (fun e=>c72 _) ?_ ?_|refine cU (fun _=>c72 _) ?_ ?_);(next=>exact flk);simp (disch:=omega) only [zl,zo,k1,go_sem])
   |((first|apply qc|apply qb);exact rvk;simp only [go_sem];first|exact VLe.refl _|apply qd|apply qa|apply qe|skip)
   |with_reducible first|refine And.intro ?_ ?_|intro _
  all_goals try exact clz
 |false=>
  rw [g1,Bool.false_or]at hR
  simp only [g1]at c72
  by_cases g2:24<t.length
  ·have k2:((24:Int)<t.length)=True:=eq_true (by omega)
   rw [decide_eq_true g2]at hR
   rw [hR]
   simp (disch:=omega) only [List.replicate,zl,zo,k1,go_sem]
   repeat' first
    |(refine qo (.bool true) ?_;simp (disch:=omega) only [zl,zo,k1,k2,go_sem])
    |((first|refine cA (c72 _) ?_ ?_|refine cG (fun e=>c72 _) ?_ ?_|refine cU (fun _=>c72 _) ?_ ?_);(next=>exact flk);simp (disch:=omega) only [zl,zo,k1,k2,go_sem])
    |((first|apply qc|apply qb);exact rvk;simp only [go_sem];first|exact VLe.refl _|apply qd|apply qa|apply qe|skip)
    |with_reducible first|refine And.intro ?_ ?_|intro _
   all_goals try exact clz
  ·have k2:((24:Int)<t.length)=False:=eq_false (by omega)
   rw [decide_eq_false g2,Bool.false_or]at hR
   rw [←hR]at c73
   simp (disch:=omega) only [List.replicate,zl,zo,k1,go_sem]
   repeat' first
    |((first|refine cA (c72 _) ?_ ?_|refine cG (fun e=>c72 _) ?_ ?_|refine cA (c73 _) ?_ ?_|refine cG (fun e=>c73 _) ?_ ?_|refine cU (fun _=>c72 _) ?_ ?_|refine cU (fun _=>c73 _) ?_ ?_);(next=>exact flk);simp (disch:=omega) only [zl,zo,k1,k2,go_sem])
    |((first|apply qc|apply qb);exact rvk;simp only [go_sem];first|exact VLe.refl _|apply qd|apply qa|apply qe|skip)
    |with_reducible first|refine And.intro ?_ ?_|intro _
   all_goals try exact clz
theorem qzI (names:List Str) (gs:List Gr) (t:List Str) (l:List En) (h:List AObj) (hb:CB names gs t l):qm Tryz.prog 10 [.agg (zW names gs t l)] h (.bool (qeJ names gs t l)) h:=by
 have c41:=fun h=>qzG names gs t l h hb
 refine acO qxj ?_
 simp (disch:=omega) only [qyv,List.replicate,zW,go_sem]
 repeat' first
  |((first|refine cA (c41 _) ?_ ?_|refine cG (fun e=>c41 _) ?_ ?_|refine cU (fun _=>c41 _) ?_ ?_);(next=>exact flk);simp (disch:=omega) only [zW,go_sem])
  |((first|apply qc|apply qb);exact rvk;simp only [go_sem];first|exact VLe.refl _|apply qd|apply qa|apply qe|skip)
  |with_reducible first|refine And.intro ?_ ?_|intro _
 all_goals try exact clz
theorem qjZ {ws:List Str} {n:Nat} (h:gwB ws n=false):ws.length≤n∧ ∀i,(ws.getD i []).length≤20:=by
 unfold gwB at h
 rw [Bool.or_eq_false_iff,decide_eq_false_iff_not,qE]at h
 refine ⟨by omega,fun i=> ?_⟩
 by_cases hi:i<ws.length
 ·have:=of_decide_eq_false (h.1 i hi)
  omega
 ·rw [gdqA,List.getElem?_eq_none (by omega)]
  exact Nat.zero_le _
theorem quZ {e:En} (h:geB e=false):e.vars.length≤6∧e.sup.length≤8∧ ∀i,((e.vars.getD i default).words.length≤8∧ ∀j,((e.vars.getD i default).words.getD j []).length≤20)∧(e.vars.getD i default).sigla.length≤8:=by
 unfold geB at h
 rw [Bool.or_eq_false_iff,Bool.or_eq_false_iff,decide_eq_false_iff_not,qE]at h
 refine ⟨by omega,(qjZ h.1.2).1,fun i=> ?_⟩
 by_cases hi:i<e.vars.length
 ·have:=h.2 i hi
  simp only [Bool.or_eq_false_iff]at this
  exact ⟨qjZ this.1,(qjZ this.2).1⟩
 ·rw [gdqA,List.getElem?_eq_none (by omega)]
  exact ⟨⟨Nat.zero_le _,fun j=>Nat.zero_le _⟩,Nat.zero_le _⟩
theorem qrb {l:List En} (h:qsP l=false):l.length≤10∧ ∀i,geB (l.getD i default)=false:=by
 unfold qsP at h
 rw [Bool.or_eq_false_iff,decide_eq_false_iff_not,qE]at h
 refine ⟨by omega,fun i=> ?_⟩
 by_cases hi:i<l.length
 ·exact h.2 i hi
 ·rw [gdqA,List.getElem?_eq_none (by omega)]
  rfl
theorem qra {names:List Str} {gs:List Gr} (h:qpz names gs=false):names.length≤34∧gs.length≤18∧(∀i,(names.getD i []).length≤20)∧ ∀i,(gs.getD i default).name.length≤20∧(gs.getD i default).mem.length≤40:=by
 unfold qpz at h
 simp only [Bool.or_eq_false_iff,decide_eq_false_iff_not,qE]at h
 obtain ⟨h1,h2,⟨⟨_,h3⟩,_⟩,h4⟩:=h
 refine ⟨by omega,by omega,fun i=> ?_,fun i=> ?_⟩
 ·by_cases hi:i<names.length
  ·have:=h1 i hi
   omega
  ·rw [gdqA,List.getElem?_eq_none (by omega)]
   exact Nat.zero_le _
 ·by_cases hi:i<gs.length
  ·have:=h2 i hi
   unfold grB at this
   simp only [Bool.or_eq_false_iff,decide_eq_false_iff_not]at this
   omega
  ·rw [gdqA,List.getElem?_eq_none (by omega)]
   exact ⟨Nat.zero_le _,Nat.zero_le _⟩
theorem qeK {names:List Str} {gs:List Gr} {t:List Str} {l:List En} (h:qeJ names gs t l=false):CSz names gs t l:=by
 unfold qeJ at h
 simp only [Bool.or_eq_false_iff,decide_eq_false_iff_not,qE]at h
 obtain ⟨h1,⟨h2,h3⟩,h4⟩:=h
 obtain ⟨a1,a2,a3,a4⟩:=qra h2
 obtain ⟨b1,b2⟩:=qrb h4
 have b3:=fun i=>quZ (b2 i)
 have ht: ∀i,(t.getD i []).length≤70:=fun i=>by
  by_cases hi:i<t.length
  ·have:=h1 i hi
   omega
  ·rw [gdqA,List.getElem?_eq_none (by omega)]
   exact Nat.zero_le _
 refine ⟨⟨by omega,by omega,fun i=>by have:=a3 i;omega,fun i=>by have:=(a4 i).1;omega,fun i=>by have:=(a4 i).2;omega⟩,⟨by omega,fun j=>by have:=ht j;omega⟩,by omega,b1,by omega,fun i=>by have:=(a4 i).2;omega,fun i=>⟨by have:=(b3 i).2.1;omega,by have:=(b3 i).1;omega,fun j=>⟨by have:=((b3 i).2.2 j).1.1;omega,fun k=>by have:=((b3 i).2.2 j).1.2 k;omega⟩,fun j=>by have:=((b3 i).2.2 j).2;omega⟩,
  fun i=>by have:=(b3 i).1;omega,fun i j=>by have:=((b3 i).2.2 j).2;omega,fun i j=>by have:=((b3 i).2.2 j).1.1;omega,fun i=>by have:=(b3 i).2.1;omega⟩
end RC
end
section
open Go Go.Proofs AF
def qrk:List Nat:= [93,74,79,120,147,148,161,170,63,105,131,64,31,32,57,58,29,30]
def qyA:C:=
 ((C.ops [O1 2 (.box 0 71) 0,ON 4 (.nilo 1 1 9) []]).seq ((C.ops [O1 9 (.fldA 2) 2,LD 10 9,⟨some 11,none,.build [.nl,i6 0,.nl] [(0,1)],[.t 10]⟩,⟨some 5,none,.alloc 2 102
 [.nl,i6 0,.nl],[]⟩,ST 3 5 11]).seq ((C.wk.seq (C.ops [O1 12 (.mkfn (Fn.func 74) 1) 5,⟨some 6,none,.alloc 3 103 [.nilfn],[]⟩,ST 1 6 12])).seq (((C.ops [O1 13 (.load (some
 5)) 2,MV 14 1,O2 15 (.call 75 true) 13 14]).seq (C.block 0 (C.range (.t 15) [16,17] ((C.ops [⟨some 7,none,.alloc 4 49 [i6 0,i6 0,i6 0,.bool false,.nl,.nl],[]⟩,ST 6 7
 16]).seq (C.ops [MV 8 17])) (C.block 1 ((C.ops [LD 18 6,O1 19 (.fldA 1) 7,LD 20 19,O2 21 .callv 18 20]).seq ((C.ops [O1 22 (.fldA 2) 5,LD 23 22,MV 24 8,O2 25 (.app 5 1 9 16)
 23 24,O1 26 (.fldA 2) 5,ST 1 26 25]).seq (C.ops [O1 27 (.fldA 2) 7,LD 28 27,O1 29 (.fldA 1) 5,ST 1 29 28]))))))).seq ((C.ops [LD 30 6,O1 31 (.fldA 2) 2,LD 32 31,O1 33 .len
 32,O2 34 .callv 30 33]).seq ((C.ops [O1 35 (.fldA 2) 5,LD 36 35,MV 4 36]).seq
 C.ret))))))
theorem qxq:qJ Tryz.prog 44 37 6 [RV.tmp 4] qyA:=fi Tryz.f44 [2,4,5,6,7,25] qrk [2] (by kernel_rfl) (by kernel_rfl) (by kernel_rfl) (by kernel_rfl)
end
section
open Go Go.Proofs AF HY LN
namespace AF
theorem qdw {P:Program} {f:FuncId} {first cap args:List AV} {d:Option Nat} {nx:Nx} {t:List AV} {h h':List AObj} {r:AV} (hc:qm P f (first++args++cap) h r h') (hn:nx (qG t d r) h'):qaJ P (.fn (.func f) first cap::args) d nx t h:=⟨r,h',hc,hn⟩
theorem qdn {v w c n:Nat} {ty:TypeId} {cs ms:List AV} (hc:c=cs.length) (hn:n=ms.length):qdm (some (zt v ty cs)) ty w c n ms=zt (w+1) ty (cs++ms):=by
 subst hc;subst hn
 unfold zt
 by_cases h:cs= []
 ·subst h
  rw [if_pos rfl,List.nil_append]
  by_cases g:ms= []
  ·subst g;rfl
  ·rw [if_neg g]
   unfold qdm
   simp [g]
 ·rw [if_neg h,if_neg (by simp [h])]
  simp [qdm]
theorem qgT {h:List AObj} {k ko:Nat} {o o':AObj} (hk:k<h.length):qy k (qD k (qD ko h o) o')=some o':=zR (by rw [qR];exact hk)
theorem j0 {v:Nat} {ty:TypeId} {cs:List AV} {n:Nat} (h: ∀c∈cs,zy n c=true):k9 n (zt v ty cs):=by
 unfold zt
 split
 ·trivial
 ·exact h
theorem qkH {v w:Nat} {ty:TypeId} {cs:List AV}:qfQ (some (zt v ty cs)) w=(v==w):=by unfold zt;split<;>rfl
theorem qg9 {v:Nat} {ty:TypeId} {cs:List AV}:(qev (some (zt v ty cs)) v).getD []=cs:=by
 unfold zt
 split
 ·rename_i e;rw [e];rfl
 ·rw [qbN,if_pos rfl];rfl
end AF
namespace RC
theorem qeF (e:En) (n:Nat): ∀c∈enC e,zy n c=true:=by
 intro c hc
 simp only [enC,List.mem_cons,List.not_mem_nil,or_false]at hc
 rcases hc with rfl|rfl|rfl|rfl|rfl|rfl<;>rfl
set_option maxHeartbeats 8000000
theorem qhn (L:List Str):(strs L).solid=true:=rfl
theorem qgA (L:List Str):(strs L).cells= [strs L]:=rfl
theorem qep {k v z p n:Nat} (L:List Str):qa4 (.osl k v z p n) (strs L)=true:=rfl
attribute [go_sem] qhn qgA qep
theorem qc9 (L:List Str) (n:Nat): ∀c∈jp L,zy n c=true:=by
 intro c hc
 unfold jp at hc
 obtain ⟨x,_,rfl⟩:=List.mem_map.1 hc
 rfl
theorem qqt {k ko vk v m:Nat} {a:Int} {h:List AObj} {ty:TypeId} {t L:List Str} (hkl:k<h.length) (hjl:ko<h.length): ∀o∈qD k (qD ko h (zt v 9 (jp L))) (.mem vk ty [strs t,.int .i64 a,.osl ko v 1 0 m]),o∈h∨k9 h.length o:=by
 intro o ho
 rcases qay ho with h1|rfl
 ·rcases qay h1 with h2|rfl
  ·exact .inl h2
  ·exact .inr (j0 (qc9 L _))
 ·right
  intro c hc
  simp only [List.mem_cons,List.not_mem_nil,or_false]at hc
  rcases hc with rfl|rfl|rfl
  ·rfl
  ·rfl
  ·simpa [zy] using hjl
theorem qyY (t out:List Str) (a to k ko vk vo:Nat) (ty:TypeId) (h:List AObj) (hne:ko≠k) (hk:qy k h=some (.mem vk ty [strs t,.int .i64 a,.osl ko vo 1 0 out.length])) (hj:qy ko h=some (zt vo 9 (jp out))) (h1:a≤to) (h2:to≤t.length) (hb:out.length+t.length≤1000000000000):
  qm Tryz.prog 74 [.op k vk 0,.int .i64 to] h (.tup []) (qD k (qD ko h (zt (vo+1) 9 (jp (out++jB t a to)))) (.mem vk ty [strs t,.int .i64 to,.osl ko (vo+1) 1 0 (out++jB t a to).length])):=by
 have hkl:=zI hk
 have hjl:=zI hj
 have hne':k≠ko:=fun e=>hne e.symm
 have q1:((a:Int)≤to)=True:=eq_true (by omega)
 have q2:((to:Int)≤t.length)=True:=eq_true (by omega)
 have q3:(0≤(a:Int))=True:=eq_true (by omega)
 have rt:((to:Int)-a).toNat=to-a:=by omega
 have eS:=fun h=>qe8 h h1 h2
 have eC:=zO (jB t a to)
 have eL:=qbG h1 h2
 have eO:=zO out
 have eA:qdm (some (zt vo 9 (jp out))) 9 vo out.length (to-a) (jp (jB t a to))=zt (vo+1) 9 (jp (out++jB t a to)):=by
  rw [qbF];exact qdn eO.symm (by omega)
 have hk1: ∀l,qy k (h++l)=some (.mem vk ty [strs t,.int .i64 a,.osl ko vo 1 0 out.length]):=fun l=>by rw [jh hkl,hk]
 have hj1: ∀l,qy ko (h++l)=some (zt vo 9 (jp out)):=fun l=>by rw [jh hjl,hj]
 refine acO qxB ?_
 simp (disch:=omega) only [qyK,List.replicate,qb1,zR,qgT,eA,hk1,hj1,qew,qdS,qbN,qgZ,hk,hj,q1,q2,q3,rt,Int.toNat_natCast,strs,eS,qkH,qg9,qa7,qrd,qre,qr5,qr6,go_sem]
 repeat' first
  |((first|apply qc|apply qb);exact rvk;simp only [go_sem];first|exact VLe.refl _|apply qd|apply qa|apply qe|skip)
  |with_reducible first|refine And.intro ?_ ?_|intro _
 all_goals try exact clz
 have eLn:(out++jB t a to).length=out.length+(to-a):=by rw [List.length_append,eL]
 rw [eLn]
 exact qjQ trivial (by simp only [qR]) (qqt hkl hjl) ⟨rfl,rfl⟩ (VLe.refl _)
theorem qf8 {v:Nat} {L:List Str} {g:AV→AV} {n:Nat} (hg: ∀s,g (.str s)= .str s) (hn:n=L.length):VLe (qe1 (some (zt v 9 (jp L))) v 1 0 n g) (strs L):=by
 subst hn
 by_cases h:L= []
 ·subst h
  show VLe (qe1 (some (.emp v)) v 1 0 0 g) _
  rw [slOf_emp,if_pos rfl]
  exact zP
 ·have e0:zt v 9 (jp L)= .mem v 9 (jp L):=j4 (fun e=>h (qoH.1 e))
  rw [e0,slOf_mem,if_pos ⟨rfl,by rw [zO];omega⟩]
  simp only [Nat.zero_add,Nat.mul_one]
  exact qoI g hg rfl
theorem qze (names:List Str) (gs:List Gr) (t:List Str) (L:List En) (src:Int) (h:List AObj) (hl:L.length≤10) (hv: ∀i,(L.getD i default).vars.length≤1000) (hw: ∀i j,((L.getD i default).vars.getD j default).words.length≤1000) (ht:t.length≤1000)
  (ok:qwt t (L.filter (qai names gs src))):
  qm Tryz.prog 44 [.agg (edL names gs t L),.int .i64 src] h (strs (qhH names gs t src (L.filter (qai names gs src)) 0)) h:=by
 have c75:=fun h=>ofP names gs t L src h
 have hle:=List.length_filter_le (qai names gs src) L
 have hall:=qge names gs t src (L.filter (qai names gs src))
 have hat:=fun i=>qsi (names:=names) (gs:=gs) (src:=src) ok i
 have hbnd:=fun i=>qsk (names:=names) (gs:=gs) (src:=src) ok i
 have hrg:=ok.rg
 have hlen: ∀i,i≤(L.filter (qai names gs src)).length→(qb2 names gs t src ((L.filter (qai names gs src)).take i)).1.length≤i*(t.length+1000):=qgf (fun i hi k=>by
  have hm:=(List.mem_filter.1 (zQ hi)).1
  obtain ⟨j,hj,e⟩:=List.getElem_of_mem hm
  have:=hw j k
  rw [gdqA (l:=L),qU hj]at this
  rw [←e]
  exact this)
 have hlen: ∀i,i≤(L.filter (qai names gs src)).length→(qb2 names gs t src ((L.filter (qai names gs src)).take i)).1.length≤20000:=fun i hi=>by
  have h1:=hlen i hi
  have h2:i*(t.length+1000)≤10*2000:=Nat.mul_le_mul (by omega) (by omega)
  omega
 have hst:=fun {i} hi=>qaE (names:=names) (gs:=gs) (t:=t) (src:=src) (L:=L.filter (qai names gs src)) (i:=i) hi
 have hwl: ∀i,i<(L.filter (qai names gs src)).length→(qgi names gs ((L.filter (qai names gs src)).getD i default) src).length≤1000:=fun i hi=>by
  have hm:=(List.mem_filter.1 (zQ hi)).1
  obtain ⟨j,hj,e⟩:=List.getElem_of_mem hm
  have:=fun k=>hw j k
  rw [gdqA (l:=L),qU hj]at this
  rw [←e]
  exact ql6 this
 obtain ⟨F,hF⟩: ∃F,F=L.filter (qai names gs src):=⟨_,rfl⟩
 rw [←hF]at hall hle
 simp only [←hF]at hat hbnd hrg hlen hst hwl
 rw [←hF,←hall]
 unfold edL at c75
 refine acO qxq ?_
 simp (disch:=omega) only [qyA,List.replicate,edL,go_sem]
 repeat' first
  |((first|apply qc|apply qb);exact rvk;simp only [go_sem];first|exact VLe.refl _|apply qd|apply qa|apply qe|skip)
  |with_reducible first|refine And.intro ?_ ?_|intro _
 all_goals try exact clz
 refine ⟨_,_,Wk.ownNil (j:=h.length+2) (i:=2) (k:=h.length+5) (ve:=0) (v:=1) (ty:=102) (cs:= [strs t,.int .i64 0,.nl]) (sz:=1) (by simp only [go_sem]) rfl (by simp only [go_sem]),?_⟩
 simp (disch:=omega) only [List.set_cons_succ,List.set_cons_zero,go_sem]
 repeat' first
  |((first|refine cA (c75 _) ?_ ?_|refine cG (fun e=>c75 _) ?_ ?_|refine cU (fun _=>c75 _) ?_ ?_);(next=>exact flk);simp (disch:=omega) only [go_sem])
  |((first|apply qc|apply qb);exact rvk;simp only [go_sem];first|exact VLe.refl _|apply qd|apply qa|apply qe|skip)
  |with_reducible first|refine And.intro ?_ ?_|intro _
 all_goals try exact clz
 refine j5 (xs:=xsE names gs L src) (itO names gs t L src (by omega) (fun i=>by have:=hv i;omega)) (qfw names gs L src)
  (S:=fun i hh=> ∃v O,qN [O] 0=true∧(∀n,k9 n O)∧hh=h++ [.mem 1 71 (edL names gs t L),.emp 1,.mem 1 102 [strs t,.int .i64 (qb2 names gs t src (F.take i)).2,.osl (h.length+5) v 1 0 (qb2 names gs t src (F.take i)).1.length],.mem 1 103 [.fn (.func 74) [.op (h.length+2) 1 0] []],O,zt v 9 (jp (qb2 names gs t src (F.take i)).1)]) (E:=fun _ _=>False) ?_ (fun _ _ h=>h.elim) ?_ ?_ ?_ ?_ (fun _ _ h=>h.elim)
 ·rintro i hh ⟨v,O,o1,o2,rfl⟩
  refine LowI.app rfl (fun o ho=> ?_)
  simp only [List.mem_cons,List.not_mem_nil,or_false]at ho
  rcases ho with rfl|rfl|rfl|rfl|rfl|rfl
  ·left;simp [edL]
  ·left;simp
  ·right;constructor<;>(intro c hc;simp only [List.mem_cons,List.not_mem_nil,or_false]at hc;rcases hc with rfl|rfl|rfl<;>first|rfl|(simp [zy];try omega))
  ·left;simp
  ·right;exact ⟨o2 _,o2 _⟩
  ·right;exact ⟨j0 (qc9 _ _),j0 (qc9 _ _)⟩
 ·exact ⟨0,.emp 0,rfl,fun _=>trivial,rfl⟩
 ·simp [zy,zy.lowVs,edL,qbB,qcX,qcW,qeP]
  try omega
 ·rintro i hh tl LI TS hi ⟨v,O,o1,o2,rfl⟩ hq K K2 hK hN hR hX
  have o1': ∀m,qN (O::m) 0=true:=fun _=>o1
  rw [qfv names gs L src hi]
  rw [qa3,←hF]at hi
  rw [←hF]
  have hs:=hst hi
  have ha:=hat i hi
  have hb:=hbnd i (by omega)
  have hl1:=hlen i (by omega)
  have hl2:=hlen (i+1) (by omega)
  have hr:=hrg i hi
  have hw1:=hwl i hi
  obtain ⟨e,he⟩: ∃e,e=F.getD i default:=⟨_,rfl⟩
  rw [←he]at hs ha hr hw1 ⊢
  obtain ⟨f,hf⟩: ∃f:Nat,e.frm=(f:Int):=⟨e.frm.toNat,by omega⟩
  obtain ⟨g,hg⟩: ∃g:Nat,e.to=(g:Int):=⟨e.to.toNat,by omega⟩
  rw [hf]at ha hr
  rw [hg]at hr
  rw [hf,hg]at hs
  simp only [Int.toNat_natCast]at hs
  rw [hs]at hl2
  obtain ⟨out,hout⟩: ∃out,out=(qb2 names gs t src (F.take i)).1:=⟨_,rfl⟩
  obtain ⟨a,haa⟩: ∃a,a=(qb2 names gs t src (F.take i)).2:=⟨_,rfl⟩
  obtain ⟨own,hown⟩: ∃own,own=qgi names gs e src:=⟨_,rfl⟩
  rw [←hown]at hs hl2 hw1 ⊢
  rw [←hout,←haa]at hs hl2 ⊢
  rw [←hout]at hl1
  rw [←haa]at ha hb
  simp only [qaX]
  simp (disch:=omega) only [List.append_assoc,o1',enC,hf,hg,go_sem]
  refine hK _ _ (h++ [.mem 1 71 (edL names gs t L),.emp 1,.mem 1 102 [strs t,.int .i64 a,.osl (h.length+5) v 1 0 out.length],.mem 1 103 [.fn (.func 74) [.op (h.length+2) 1 0] []],.mem (qx (some O)+1) 49 (enC e),zt v 9 (jp out)]) (by simp [enC,hf,hg]) (by simp) ?_
  obtain ⟨w,hw⟩: ∃w,w=qx (some O)+1:=⟨_,rfl⟩
  rw [←hw]
  simp only [List.length_append]at hl2
  have eN:(out++jB t a f).length=out.length+(jB t a f).length:=List.length_append
  have hfl:=qbG (t:=t) (f:=a) (g:=f) (by omega) (by omega)
  simp (disch:=omega) only [List.append_assoc,enC,hf,hg,go_sem]
  repeat' first
   |((first|apply qc|apply qb);exact rvk;simp only [go_sem];first|exact VLe.refl _|apply qd|apply qa|apply qe|skip)
   |with_reducible first|refine And.intro ?_ ?_|intro _
  all_goals try exact clz
  refine qdw (qyY t out a f (h.length+2) (h.length+5) 1 v 102 _ (by omega) (by simp only [go_sem]) (by simp only [go_sem]) (by omega) (by omega) (by omega)) ?_
  have eA:=qdn (v:=v+1) (w:=v+1) (ty:=9) (cs:=jp (out++jB t a f)) (ms:=jp own) (zO _).symm (zO _).symm
  rw [←qbF]at eA
  have eS:=fun h=>qga h own
  have eC:=zO own
  have eD:=zO (out++jB t a f)
  simp (disch:=omega) only [Nat.mul_one,eS,eA,eC,eD,go_sem]
  repeat' first
   |((first|apply qc|apply qb);exact rvk;simp only [go_sem];first|exact VLe.refl _|apply qd|apply qa|apply qe|skip)
   |with_reducible first|refine And.intro ?_ ?_|intro _
  all_goals try exact clz
  refine hN _ _ (h++ [.mem 1 71 (edL names gs t L),.emp 1,.mem 1 102 [strs t,.int .i64 g,.osl (h.length+5) (v+1+1) 1 0 ((out++jB t a f).length+own.length)],.mem 1 103 [.fn (.func 74) [.op (h.length+2) 1 0] []],.mem w 49 (enC e),zt (v+1+1) 9 (jp (out++jB t a f++own))]) ?_ (by simp) ⟨v+1+1,.mem w 49 (enC e),rfl,fun n=>qeF e n,?_⟩
  ·simp [enC,hf,hg]
  ·rw [hs]
   simp [Nat.add_assoc]
 ·rintro hh ⟨v,O,o1,o2,rfl⟩
  rw [qa3,←hF,List.take_length]
  have hl1:=hlen F.length (Nat.le_refl _)
  have hb:=hbnd F.length (Nat.le_refl _)
  rw [List.take_length]at hl1 hb
  obtain ⟨out,hout⟩: ∃out,out=(qb2 names gs t src F).1:=⟨_,rfl⟩
  obtain ⟨a,haa⟩: ∃a,a=(qb2 names gs t src F).2:=⟨_,rfl⟩
  rw [←hout]at hl1
  rw [←haa]at hb
  rw [←hout,←haa]
  have zl: ∀g,valL g .len [strs t]= .int .i64 t.length:=fun _=>rfl
  have zo: ∀g,okL g .len [strs t]=True:=fun _=>eq_true trivial
  simp (disch:=omega) only [edL,zl,zo,go_sem]
  repeat' first
   |((first|apply qc|apply qb);exact rvk;simp only [go_sem];first|exact VLe.refl _|apply qd|apply qa|apply qe|skip)
   |with_reducible first|refine And.intro ?_ ?_|intro _
  all_goals try exact clz
  refine qdw (qyY t out a t.length (h.length+2) (h.length+5) 1 v 102 _ (by omega) (by simp only [go_sem]) (by simp only [go_sem]) (by omega) (by omega) (by omega)) ?_
  simp (disch:=omega) only [go_sem]
  repeat' first
   |((first|apply qc|apply qb);exact rvk;simp only [go_sem];first|exact VLe.refl _|apply qd|apply qa|apply qe|skip)
   |with_reducible first|refine And.intro ?_ ?_|intro _
  all_goals try exact clz
  exact qf8 (fun _=>rfl) rfl
end RC
end
section
open Go Go.Proofs AF
def qrl:List Nat:= [93,74,79,120,147,148,161,170,63,105,131,64,31,32,57,58,29,30]
def qwT:C:=
 ((C.ops [⟨some 8,none,.alloc 0 71 [.nl,.nl,.nl,.nl,.nl],[]⟩,⟨some 9,none,.alloc 1 29 [i6 0],[]⟩]).seq ((C.ops [MV 24 0,MV 25 1,MV 26 2,⟨some 27,none,.build [.nl,
 .nl,.nl,.nl,.nl] [(0,1),(1,1),(2,1)],[.t 24,.t 25,.t 26]⟩,⟨some 10,none,.alloc 2 71 [.nl,.nl,.nl,.nl,.nl],[]⟩,ST 5 10 27]).seq (((C.ops [MV 28 0,MV 29 1,O2 30
 (.call 59 true) 28 29,BC 31 .neq 30 (i6 0)]).seq (C.cond (.t 31) ((C.ops [O1 32 (.load (some 5)) 10,ST 5 8 32,⟨none,none,.store 1,[.t 9,.c (i6 1)]⟩]).seq C.ret) C.skip)).seq
 (((C.ops [MV 33 3,O1 34 .len 33,BC 35 .gtr 34 (i6 4096)]).seq (C.cond (.t 35) ((C.ops [O1 36 (.load (some 5)) 10,ST 5 8 36,⟨none,none,.store 1,[.t 9,.c (i6 4)]⟩]).seq
 C.ret) C.skip)).seq (((C.ops [MV 37 3,O1 38 .len 37,MC 39 (i6 0)]).seq (C.block 0 ((C.ops [BI 40 .lss 39 38]).seq ((C.cond (.t 40) C.skip (C.exit 0)).seq ((C.block 1 ((C.ops [O2
 41 (.idxA 6) 37 39,O1 42 (.load (some 6)) 41,⟨some 12,none,.alloc 3 49 [i6 0,i6 0,i6 0,.bool false,.nl,.nl],[]⟩,ST 6 12 42]).seq ((C.ops [MV 43 0,MV 44 1,MV 45 2,O1
 46 (.load (some 6)) 12,ON 47 (.call 78 true) [.t 43,.t 44,.t 45,.t 46],MV 13 47]).seq ((C.ops [MV 48 13,BC 49 .neq 48 (i6 0)]).seq (C.cond (.t 49) ((C.ops [O1 50 (.load (some
 5)) 10,MV 51 13,ST 5 8 50,ST 1 9 51]).seq C.ret) C.skip))))).seq (C.ops [BC 52 .add 39 (i6 1),MV 39 52])))).loop)).seq ((C.ops [MV 53 3,O1 54 (.call 31 false) 53,O1 55 (.fldA
 3) 10,ST 1 55 54]).seq ((C.ops [O1 56 (.fldA 3) 10,LD 57 56,OC 58 (.call 79 false) 57 (.fn (Fn.func 80) [] [])]).seq (((C.wk.seq (C.ops [O1 59 (.fldA 3) 10,LD 60 59,O1 61 .len
 60,MC 62 (i6 0)])).seq (C.block 2 ((C.ops [BI 63 .lss 62 61]).seq ((C.cond (.t 63) C.skip (C.exit 2)).seq ((C.block 3 ((C.ops [O2 64 (.idxA 6) 60 62,O1 65 (.load (some 6)) 64,
 ⟨some 15,none,.alloc 4 49 [i6 0,i6 0,i6 0,.bool false,.nl,.nl],[]⟩,ST 6 15 65]).seq ((C.ops [ON 16 (.nilo 5 1 37) []]).seq (((C.ops [O1 66 (.fldA 5) 15,LD 67 66,O1 68
 .len 67,MC 69 (i6 0)]).seq (C.block 4 ((C.ops [BI 70 .lss 69 68]).seq ((C.cond (.t 70) C.skip (C.exit 4)).seq ((C.block 5 ((C.ops [O2 71 (.idxA 2) 67 69,O1 72 (.load (some 2))
 71,⟨some 18,none,.alloc 6 51 [.nl,.nl],[]⟩,ST 2 18 72]).seq ((C.ops [MV 74 0,MV 75 1,O1 76 (.fldA 1) 18,LD 77 76,ON 78 (.call 62 true) [.t 74,.t 75,.t 77],MV 73 78,O1
 79 (.ext 0) 73,O1 80 (.ext 1) 73,MV 19 79,MV 20 80]).seq (((C.ops [MV 81 20,BC 82 .neq 81 (i6 0)]).seq (C.cond (.t 82) ((C.ops [O1 83 (.load (some 5)) 10,MV 84 20,ST 5 8 83,
 ST 1 9 84]).seq C.ret) C.skip)).seq (C.ops [MV 85 16,MV 86 19,⟨some 87,none,.bslc 7 1 1 37 [.nl] [(0,1)],[.t 86]⟩,O2 88 (.app 8 1 37 24) 85 87,MV 16 88]))))).seq (C.ops [BC
 89 .add 69 (i6 1),MV 69 89])))).loop)).seq (C.ops [O1 90 (.fldA 4) 10,LD 91 90,MV 92 16,⟨some 93,none,.bslc 9 1 1 91 [.nl] [(0,1)],[.t 92]⟩,O2 94 (.app 10 1 91 24) 91 93,
 O1 95 (.fldA 4) 10,ST 1 95 94]))))).seq (C.ops [BC 96 .add 62 (i6 1),MV 62 96])))).loop)).seq (((C.wk.seq (C.ops [MV 97 0,O1 98 .len 97,MC 99 (i6 0)])).seq (C.block 6 ((C.ops
 [BI 100 .lss 99 98]).seq ((C.cond (.t 100) C.skip (C.exit 6)).seq ((C.block 7 ((C.ops [MV 101 99,MV 21 101]).seq ((C.ops [⟨some 102,none,.build [i6 0,i6 0,i6 0,.bool false,
 .nl,.nl] [(1,1),(2,1)],[.c (i6 (-1)),.c (i6 (-1))]⟩,⟨some 22,none,.alloc 11 49 [i6 0,i6 0,i6 0,.bool false,.nl,.nl],[]⟩,ST 6 22 102]).seq ((C.ops [O1 103 (.load
 (some 5)) 10,MV 104 21,O2 105 (.call 75 true) 103 104]).seq (C.block 8 (C.range (.t 105) [106,107] (C.ops [⟨some 23,none,.alloc 12 49 [i6 0,i6 0,i6 0,.bool false,.nl,
 .nl],[]⟩,ST 6 23 106]) (C.block 9 (((C.ops [O1 108 (.fldA 1) 23,LD 109 108,O1 110 (.fldA 2) 22,LD 111 110,BI 112 .lss 109 111,MV 113 112,P1 114 113 false (.fldA 1) 23,P1
 115 113 false (.load none) 114,P1 116 113 false (.fldA 1) 22,P1 117 113 false (.load none) 116,P2 118 113 false (.bin .eql) 115 117,MG 119 113 false 118,P1 120 119 true (.fldA
 2) 23,P1 121 119 true (.load none) 120,P1 122 119 true (.fldA 2) 22,P1 123 119 true (.load none) 122,P2 124 119 true (.bin .eql) 121 123,QF 125 113 false 119 124,PT 126 113
 125]).seq (C.cond (.t 126) ((C.ops [O1 127 (.load (some 5)) 10,ST 5 8 127,⟨none,none,.store 1,[.t 9,.c (i6 17)]⟩]).seq C.ret) C.skip)).seq (C.ops [O1 128 (.load (some 6)) 23,
 ST 6 22 128]))))))))).seq (C.ops [BC 129 .add 99 (i6 1),MV 99 129])))).loop)).seq ((C.ops [O1 130 (.load (some 5)) 10,ST 5 8 130,⟨none,none,.store 1,[.t 9,.c (i6 0)]⟩]).seq
 C.ret))))))))))
theorem quL:qJ Tryz.prog 48 131 13 [RV.cell 8 (some 5),RV.cell 9 none] qwT:=fi Tryz.f48 [8,9,10,12,15,16,18,87,88,93,94,22,23] qrl [15,29] (by kernel_rfl) (by kernel_rfl) (by kernel_rfl) (by kernel_rfl)
end
section
open Go Go.Proofs AF HY LN
namespace AF
theorem Wk.fzCell {t:List AV} {h:List AObj} {j k i v:Nat} {ty:TypeId} {cs:List AV} {c c':AV} (hj:qy j h=some (.mem v ty cs)) (hi:cs[i]? =some c) (hs:qN h k=true) (hne:j≠k) (hc:VLe (frz (fun b=> [k].contains b) h 8 c) c'):
  Wk t h t (qD j (qD k h (.emp (qx (qy k h)+1))) (.mem v ty (cs.set i c'))):=by
 intro N w σ a H
 have hs':j6 [k] h=true:=by simp [j6,hs]
 obtain ⟨σ',g1,g2,g3,g4⟩:=qdP [k] H.hr hs'
 have hn:j∉ [k]:=by simp [hne]
 have frzv: ∀c x,VR w σ c x→VR w σ' (frz (fun b=> [k].contains b) h 8 c) x:=fun c x hx=>
  qjT H.hr (fun b hb=>(g4 b hb).elim fun j ⟨o,h1,h2,h3⟩=>⟨j,o,by simpa using h1,h2,h3⟩) (fun j o hj ho=>g3 j o (by simpa using hj) ho) 8 hx
 have hjl:j<σ.length:=by rw [H.hr.len];exact zI hj
 have ho:=qU hjl
 obtain ⟨m1,m2,b,arr,m3,m4,m5,m6,m7,m8⟩:=H.hr.obj j _ _ hj ho
 have q:=g1.recell (cs':=cs.set i c') ((qnF hn).trans hj) (g3 j _ hn ho) m3 m4 m5 (by simpa using m6) (fun n x hn hx=>m7 n x (by simpa using hn) hx) (fun n d x hd hx=>by
  rw [List.getElem?_set]at hd
  split at hd
  ·rename_i e
   subst e
   split at hd
   ·cases hd;exact hc _ _ _ (frzv _ x (m8 i _ x hi hx))
   ·cases hd
  ·exact (m8 n d x hd hx).ext g2)
 exact ⟨σ',⟨q,H.sz,fun n d x hd hx=>(H.tm n d x hd hx).ext g2,qan g2 H.df⟩,g2⟩
theorem qaq {h:List AObj} {k ve sz off n:Nat}:frz (fun b=> [k].contains b) h 8 (.osl k ve sz off n)=qe1 (qy k h) ve sz off n (rei (fun b=> [k].contains b) h 7):=by
 rw [frz_osl,if_pos (by simp),rei_osl,if_pos (by simp)]
theorem qvE {f:Nat→AV} {m j:Nat} (h:j<m):((((List.range m).map f).drop j).take 1)= [f j]:=by
 rw [←List.map_drop,List.drop_eq_getElem_cons (by simpa using h),List.map_cons,List.take_succ_cons,List.take_zero]
 simp
theorem qf9 {v m n:Nat} {ty:TypeId} {f:Nat→AV} {g:AV→AV} (hg: ∀k,g (f k)=f k) (hn:n=m):VLe (qe1 (some (zt v ty ((List.range m).map f))) v 1 0 n g) (.sl m fun k=> [f k]):=by
 subst hn
 by_cases h:n=0
 ·subst h
  show VLe (qe1 (some (.emp v)) v 1 0 0 g) _
  rw [slOf_emp,if_pos rfl]
  exact zP
 ·have e0:zt v ty ((List.range n).map f)= .mem v ty ((List.range n).map f):=j4 (by simpa using h)
  rw [e0,slOf_mem,if_pos ⟨rfl,by simp⟩]
  refine VLe.sl_eq rfl (fun i hi=> ?_)
  simp only [Nat.zero_add,Nat.mul_one]
  rw [qvE hi,List.map_cons,List.map_nil,hg]
end AF
namespace RC
set_option maxHeartbeats 8000000
theorem qhl (L:List Gr):(qt L).solid=true:=rfl
theorem qgy (L:List Gr):(qt L).cells= [qt L]:=rfl
theorem qhk (L:List En):(qz L).solid=true:=rfl
theorem qgx (L:List En):(qz L).cells= [qz L]:=rfl
theorem qln (names:List Str) (gs:List Gr) (e:En):(stV names gs e).solid=true:=rfl
theorem qjd (names:List Str) (gs:List Gr) (e:En):(stV names gs e).cells= [stV names gs e]:=rfl
theorem qll (names:List Str) (gs:List Gr) (L:List En):(msV names gs L).solid=true:=rfl
theorem qjb (names:List Str) (gs:List Gr) (L:List En):(msV names gs L).cells= [msV names gs L]:=rfl
theorem qe2 (L:List Int):(ql L).solid=true:=rfl
theorem qey (L:List Int):(ql L).cells= [ql L]:=rfl
attribute [go_sem] qhl qgy qhk qgx qln qjd qll qjb qe2 qey
theorem qzN (h:List AObj):qm Tryz.prog 147 [qz [],.int .i64 0,.int .i64 0,.fn (.func 80) [] []] h (.tup []) h:=by
 refine acO qpu ?_
 simp (disch:=omega) only [qqj,List.replicate,go_sem]
 repeat' first
  |((first|apply qc|apply qb);exact rvk;simp only [go_sem];first|exact VLe.refl _|apply qd|apply qa|apply qe|skip)
  |with_reducible first|refine And.intro ?_ ?_|intro _
 all_goals try exact clz
 refine qn (T:=fun _:Unit=>qI 53 [(0,qz []),(1,.int .i64 0),(2,.int .i64 0),(3,.fn (.func 80) [] []),(8,.int .i64 1)]) (H:=fun _=>h) (inv:=fun _=>True) (m:=fun _=>0) () trivial (Wk.temps ?_) ?_
 ·(simp only [List.replicate,go_sem,qj,qh,qg,qi];try (repeat' first|(with_reducible refine And.intro ?_ ?_)|(apply qd;omega)|(apply qa;rfl)|exact VLe.refl _))
 rintro _ _ K hK
 have q:((1:Int)<0)=False:=eq_false (by omega)
 simp (disch:=omega) only [List.replicate,q,go_sem]
 repeat' first
  |((first|apply qc|apply qb);exact rvk;simp only [go_sem];first|exact VLe.refl _|apply qd|apply qa|apply qe|skip)
  |with_reducible first|refine And.intro ?_ ?_|intro _
 all_goals try exact clz
theorem qz5 (h:List AObj):qm Tryz.prog 120 [qz [],.int .i64 0,.fn (.func 80) [] []] h (.tup []) h:=by
 have c147:=fun h=>qzN h
 have q1:((20:Int)≤0)=False:=eq_false (by omega)
 have q2:((20:Int)<0)=False:=eq_false (by omega)
 refine acO qpq ?_
 simp (disch:=omega) only [qqf,List.replicate,go_sem]
 repeat' first
  |((first|apply qc|apply qb);exact rvk;simp only [go_sem];first|exact VLe.refl _|apply qd|apply qa|apply qe|skip)
  |with_reducible first|refine And.intro ?_ ?_|intro _
 all_goals try exact clz
 refine qn (T:=fun _:Unit=>qI 63 [(0,qz []),(1,.int .i64 0),(2,.fn (.func 80) [] []),(6,.int .i64 20),(7,.int .i64 0),(8,.int .i64 20)]) (H:=fun _=>h) (inv:=fun _=>True) (m:=fun _=>0) () trivial (Wk.temps ?_) ?_
 ·(simp only [List.replicate,go_sem,qj,qh,qg,qi];try (repeat' first|(with_reducible refine And.intro ?_ ?_)|(apply qd;omega)|(apply qa;rfl)|exact VLe.refl _))
 rintro _ _ K hK
 simp (disch:=omega) only [List.replicate,q1,go_sem]
 repeat' first
  |((first|apply qc|apply qb);exact rvk;simp only [go_sem];first|exact VLe.refl _|apply qd|apply qa|apply qe|skip)
  |with_reducible first|refine And.intro ?_ ?_|intro _
 all_goals try exact clz
 refine zD (c147 _) (by exact flk) ?_
 simp (disch:=omega) only [go_sem]
 repeat' first
  |((first|apply qc|apply qb);exact rvk;simp only [go_sem];first|exact VLe.refl _|apply qd|apply qa|apply qe|skip)
  |with_reducible first|refine And.intro ?_ ?_|intro _
 all_goals try exact clz
 refine qn (T:=fun _:Unit=>qI 63 [(0,qz []),(1,.int .i64 0),(2,.fn (.func 80) [] []),(6,.int .i64 20)]) (H:=fun _=>h) (inv:=fun _=>True) (m:=fun _=>0) () trivial (Wk.temps ?_) ?_
 ·(simp only [List.replicate,go_sem,qj,qh,qg,qi];try (repeat' first|(with_reducible refine And.intro ?_ ?_)|(apply qd;omega)|(apply qa;rfl)|exact VLe.refl _))
 rintro _ _ K2 hK2
 simp (disch:=omega) only [List.replicate,q2,go_sem]
 repeat' first
  |((first|apply qc|apply qb);exact rvk;simp only [go_sem];first|exact VLe.refl _|apply qd|apply qa|apply qe|skip)
  |with_reducible first|refine And.intro ?_ ?_|intro _
 all_goals try exact clz
theorem qz3 (h:List AObj):qm Tryz.prog 79 [qz [],.fn (.func 80) [] []] h (.tup []) h:=by
 have c120:=fun h=>qz5 h
 have zl: ∀g,valL g .len [qz []]= .int .i64 0:=fun _=>rfl
 have zo: ∀g,okL g .len [qz []]=True:=fun _=>eq_true trivial
 refine acO quS ?_
 simp (disch:=omega) only [qw0,List.replicate,zl,zo,go_sem]
 repeat' first
  |((first|apply qc|apply qb);exact rvk;simp only [go_sem];first|exact VLe.refl _|apply qd|apply qa|apply qe|skip)
  |with_reducible first|refine And.intro ?_ ?_|intro _
 all_goals try exact clz
 refine zD (c120 _) (by exact flk) ?_
 simp (disch:=omega) only [go_sem]
 repeat' first
  |((first|apply qc|apply qb);exact rvk;simp only [go_sem];first|exact VLe.refl _|apply qd|apply qa|apply qe|skip)
  |with_reducible first|refine And.intro ?_ ?_|intro _
 all_goals try exact clz
def stC (names:List Str) (gs:List Gr) (e:En) (j:Nat):List AV:=(List.range j).map fun k=>ql (zz names gs (e.vars.getD k default).sigla)
theorem qoF (names:List Str) (gs:List Gr) (e:En) (j:Nat):stC names gs e j++ [ql (zz names gs (e.vars.getD j default).sigla)]=stC names gs e (j+1):=by unfold stC;rw [List.range_succ,List.map_append];rfl
theorem qse (names:List Str) (gs:List Gr) (e:En) (j:Nat):(stC names gs e j).length=j:=by simp [stC]
def msC (names:List Str) (gs:List Gr) (L:List En) (i:Nat):List AV:=(List.range i).map fun k=>stV names gs (L.getD k default)
theorem qnL (names:List Str) (gs:List Gr) (L:List En) (i:Nat):msC names gs L i++ [stV names gs (L.getD i default)]=msC names gs L (i+1):=by unfold msC;rw [List.range_succ,List.map_append];rfl
theorem qrt (names:List Str) (gs:List Gr) (L:List En) (i:Nat):(msC names gs L i).length=i:=by simp [msC]
theorem qpF (names:List Str) (gs:List Gr) (L:List En) (i:Nat) (c:AV):msC names gs L i++ [c]≠ []:=by simp
theorem qov {v n:Nat} {ty:TypeId} {L:List En} {fz:Nat→Bool} {h:List AObj} {d:Nat} (hn:n=L.length):VLe (qe1 (some (.mem v ty (jv L))) v 6 0 n (rei fz h (d+1))) (qz L):=by
 subst hn
 rw [slOf_mem,if_pos ⟨rfl,by rw [jW];omega⟩]
 refine VLe.sl_eq rfl (fun i hi=> ?_)
 simp only [Nat.zero_add]
 rw [qby hi]
 rfl
def rdV (names:List Str) (gs:List Gr) (t:List Str) (l:List En):AV:=if rdE names gs t l=0 then .agg (edL names gs t (z7 l)) else .agg [.undef,.undef,.undef,.undef,.undef]
theorem qct {names:List Str} {gs:List Gr} {t:List Str} {l:List En} (h:rdE names gs t l=0):rdV names gs t l= .agg (edL names gs t (z7 l)):=if_pos h
theorem qbe {names:List Str} {gs:List Gr} {t:List Str} {l:List En} (h:rdE names gs t l≠0):rdV names gs t l= .agg [.undef,.undef,.undef,.undef,.undef]:=if_neg h
def qcV (F:List En):Nat→List AV
 |0=> [.int .i64 0,.int .i64 (-1),.int .i64 (-1),.bool false,.nl,.nl]
 |i+1=>enC (F.getD i default)
theorem qau (F:List En) (i n:Nat): ∀c∈qcV F i,zy n c=true:=by
 intro c hc
 cases i with
 |zero=>
  simp only [qcV,List.mem_cons,List.not_mem_nil,or_false]at hc
  rcases hc with rfl|rfl|rfl|rfl|rfl|rfl<;>rfl
 |succ i=>
  simp only [qcV,enC,List.mem_cons,List.not_mem_nil,or_false]at hc
  rcases hc with rfl|rfl|rfl|rfl|rfl|rfl<;>rfl
structure RSt where
 i:Nat
 v:Nat
 O4:AObj
 O5:AObj
 O6:AObj
 O7:AObj
 O9:AObj
def NL5:List AV:= [.nl,.nl,.nl,.nl,.nl]
set_option maxHeartbeats 16000000 in
theorem qx1 (names:List Str) (gs:List Gr) (t:List Str) (l:List En) (h:List AObj) (hc:CSz names gs t l) (hp:kh SG h):
  qm Tryz.prog 48 [strs names,qt gs,strs t,qz l] h (.tup [rdV names gs t l,.int .i64 (rdE names gs t l)]) h:=by
 have c59:=fun h=>sgP names gs h hc.hz
 have c78:=fun i l'=>qzq names gs t (l.getD i default) (h++l') hc.hz hc.ht (hc.he i) (hp.app l')
 have hln:=hc.ln
 have hnn:=hc.nn
 have qwG: ∀(a b c d e:AV) (n:Int),VLe (.tup [.agg [a,b,c,d,e],.int .i64 n]) (.tup [.agg [.undef,.undef,.undef,.undef,.undef],.int .i64 n]):=fun a b c d e n=>by
  have u: ∀a,VLe a .undef:=fun a w σ x _=> .imm .undef
  exact qV ⟨VLe.agg ⟨u _,u _,u _,u _,u _,trivial⟩,VLe.refl _,trivial⟩
 by_cases g0:sgE names gs=0
 case neg=>
  have hR:rdE names gs t l=1:=by unfold rdE;rw [if_pos g0]
  rw [qbe (by rw [hR];decide),hR]
  have k0:(sgE names gs=0)=False:=eq_false g0
  refine acO quL ?_
  simp (disch:=omega) only [qwT,List.replicate,k0,go_sem]
  repeat' first
   |((first|refine cA (c59 _) ?_ ?_|refine cG (fun e=>c59 _) ?_ ?_|refine cU (fun _=>c59 _) ?_ ?_);(next=>exact flk);simp (disch:=omega) only [k0,go_sem])
   |((first|apply qc|apply qb);exact rvk;simp only [go_sem];first|exact VLe.refl _|apply qd|apply qa|apply qe|skip)
   |with_reducible first|refine And.intro ?_ ?_|intro _
  all_goals try exact clz
  exact qwG _ _ _ _ _ _
 rw [g0]at c59
 have hR:rdE names gs t l=if kW (fun i=>kj names gs t (l.getD i default)) 0 l.length≠0 then kW (fun i=>kj names gs t (l.getD i default)) 0 l.length else if zG names gs l=true then 17 else 0:=by
  unfold rdE
  rw [if_neg (fun hc=>hc g0),if_neg (by omega)]
 have k1:((4096:Int)<l.length)=False:=eq_false (by omega)
 refine acO quL ?_
 unfold qwT
 refine jm (jm (jm (jm (jm (jm (jm (qr3 (fun tt hh=> ∃O3 O4 O5 O6 O7 O8 O9 O10,(∀i,i<l.length→kj names gs t (l.getD i default)=0)∧Wk tt hh (qI 131 [(0,strs names),(8,.op h.length 1 0),(9,.op (h.length+1) 1 0),(10,.op (h.length+2) 1 0)])
  (h++ [.mem 1 71 NL5,.mem 1 29 [.int .i64 0],.mem 1 71 (edL names gs t (z7 l)),O3,O4,O5,O6,O7,O8,O9,O10,.emp 0,.emp 0])) ?hx ?hy)))))))
 case hx=>
  intro KK hKK
  simp (disch:=omega) only [List.replicate,qz,k1,go_sem]
  repeat' first
   |((first|refine cA (c59 _) ?_ ?_|refine cG (fun e=>c59 _) ?_ ?_|refine cU (fun _=>c59 _) ?_ ?_);(next=>exact flk);simp (disch:=omega) only [qz,k1,go_sem])
   |((first|apply qc|apply qb);exact rvk;simp only [go_sem];first|exact VLe.refl _|apply qd|apply qa|apply qe|skip)
   |with_reducible first|refine And.intro ?_ ?_|intro _
  all_goals try exact clz
  refine qn (T:=fun i:Nat×AObj=>qI 131 [(0,strs names),(1,qt gs),(2,strs t),(3,qz l),(8,.op h.length 1 0),(9,.op (h.length+1) 1 0),(10,.op (h.length+2) 1 0),(37,qz l),(38,.int .i64 l.length),(39,.int .i64 i.1)])
   (H:=fun i=>h++ [.mem 1 71 NL5,.mem 1 29 [.int .i64 0],.mem 1 71 [strs names,qt gs,strs t,.nl,.nl],i.2,.emp 0,.emp 0,.emp 0,.emp 0,.emp 0,.emp 0,.emp 0,.emp 0,.emp 0])
   (inv:=fun i=>i.1≤l.length∧(∀j,j<i.1→kj names gs t (l.getD j default)=0)∧qN [i.2] 0=true) (m:=fun i=>l.length-i.1) (0,.emp 0) ⟨Nat.zero_le _,fun j hj=>by omega,rfl⟩ (Wk.temps ?_) ?_
  ·(simp only [qz,List.replicate,go_sem,qj,qh,qg,qi];try (repeat' first|(with_reducible refine And.intro ?_ ?_)|(apply qd;omega)|(apply qa;rfl)|exact VLe.refl _))
  rintro ⟨i,O⟩ ⟨i1,i2,i3⟩ K hK
  simp only at i1 i2 i3 hK
  have i3': ∀m,qN (O::m) 0=true:=fun _=>i3
  by_cases hi:i<l.length
  ·have k2:((i:Int)<l.length)=True:=eq_true (by omega)
   have hE:=qP (f:=fun i=>kj names gs t (l.getD i default)) hi i2
   have c78:=c78 i
   obtain ⟨x,hx⟩: ∃x,x=l.getD i default:=⟨_,rfl⟩
   have ex:=hx.symm
   simp only [ex]at hE c78
   simp only [enC]at c78
   by_cases g1:kj names gs t x=0
   ·rw [g1]at c78
    simp (disch:=omega) only [List.replicate,qz,enC,NL5,k2,ex,i3',go_sem]
    repeat' first
     |((first|refine cA (c78 _) ?_ ?_|refine cG (fun e=>c78 _) ?_ ?_|refine cU (fun _=>c78 _) ?_ ?_);(next=>exact flk);simp (disch:=omega) only [qz,enC,NL5,k2,ex,i3',go_sem])
     |((first|apply qc|apply qb);exact rvk;simp only [go_sem];first|exact VLe.refl _|apply qd|apply qa|apply qe|skip)
     |with_reducible first|refine And.intro ?_ ?_|intro _
    all_goals try exact clz
    refine hK _ _ (i+1,.mem (qx (some O)+1) 49 (enC x)) ⟨hi,fun j hj=> ?_,rfl⟩ (by simp only;omega) (Wk.temps ?_)
    ·by_cases e:j=i
     ·subst e;rw [ex];exact g1
     ·exact i2 j (by simp only at hj;omega)
    ·(simp only [qz,List.replicate,go_sem,qj,qh,qg,qi];try (repeat' first|(with_reducible refine And.intro ?_ ?_)|(apply qd;omega)|(apply qa;rfl)|exact VLe.refl _))
   ·have k3:(kj names gs t x=0)=False:=eq_false g1
    have hR2:rdE names gs t l=kj names gs t x:=by rw [hR,if_pos (by rw [hE g1];exact g1),hE g1]
    rw [qbe (by rw [hR2];exact g1),hR2]
    simp (disch:=omega) only [List.replicate,qz,enC,NL5,k2,ex,i3',go_sem]
    repeat' first
     |((first|refine cA (c78 _) ?_ ?_|refine cG (fun e=>c78 _) ?_ ?_|refine cU (fun _=>c78 _) ?_ ?_);(next=>exact flk);simp (disch:=omega) only [qz,enC,NL5,k2,ex,i3',k3,go_sem])
     |((first|apply qc|apply qb);exact rvk;simp only [go_sem];first|exact VLe.refl _|apply qd|apply qa|apply qe|skip)
     |with_reducible first|refine And.intro ?_ ?_|intro _
    all_goals try exact clz
    exact qwG _ _ _ _ _ _
  have hi2: ∀i,i<l.length→kj names gs t (l.getD i default)=0:=fun j hj=>i2 j (by omega)
  have k2:((i:Int)<l.length)=False:=eq_false (by omega)
  by_cases l0:l= []
  ·subst l0
   have c31:=fun h=>qzu h
   have c79:=fun h=>qz3 h
   have zl: ∀g,valL g .len [qz []]= .int .i64 0:=fun _=>rfl
   have zo: ∀g,okL g .len [qz []]=True:=fun _=>eq_true trivial
   simp (disch:=omega) only [List.replicate,NL5,k2,i3',zl,zo,go_sem]
   repeat' first
    |((first|apply qc|apply qb);exact rvk;simp only [go_sem];first|exact VLe.refl _|apply qd|apply qa|apply qe|skip)
    |with_reducible first|refine And.intro ?_ ?_|intro _
   all_goals try exact clz
   refine zD (c31 _) (by exact flk) ?_
   simp (disch:=omega) only [zl,zo,go_sem]
   repeat' first
    |((first|apply qc|apply qb);exact rvk;simp only [go_sem];first|exact VLe.refl _|apply qd|apply qa|apply qe|skip)
    |with_reducible first|refine And.intro ?_ ?_|intro _
   all_goals try exact clz
   refine zD (c79 _) (by exact flk) ?_
   simp (disch:=omega) only [zl,zo,go_sem]
   repeat' first
    |((first|apply qc|apply qb);exact rvk;simp only [go_sem];first|exact VLe.refl _|apply qd|apply qa|apply qe|skip)
    |with_reducible first|refine And.intro ?_ ?_|intro _
   all_goals try exact clz
   refine ⟨_,_,Wk.refl _ _,?_⟩
   simp (disch:=omega) only [zl,zo,go_sem]
   repeat' first
    |((first|apply qc|apply qb);exact rvk;simp only [go_sem];first|exact VLe.refl _|apply qd|apply qa|apply qe|skip)
    |with_reducible first|refine And.intro ?_ ?_|intro _
   all_goals try exact clz
   refine qn (T:=fun _:Unit=>qI 131 [(0,strs names),(8,.op h.length 1 0),(9,.op (h.length+1) 1 0),(10,.op (h.length+2) 1 0),(61,.int .i64 0),(62,.int .i64 0)])
    (H:=fun _=>h++ [.mem 1 71 NL5,.mem 1 29 [.int .i64 0],.mem 1 71 [strs names,qt gs,strs t,qz [],.nl],O,.emp 0,.emp 0,.emp 0,.emp 0,.emp 0,.emp 0,.emp 0,.emp 0,.emp 0])
    (inv:=fun _=>True) (m:=fun _=>0) () trivial (Wk.temps ?_) ?_
   ·(simp only [List.replicate,go_sem,qj,qh,qg,qi];try (repeat' first|(with_reducible refine And.intro ?_ ?_)|(apply qd;omega)|(apply qa;rfl)|exact VLe.refl _))
   rintro _ _ K2 hK2
   have k3:((0:Int)<0)=False:=eq_false (by omega)
   simp (disch:=omega) only [List.replicate,k3,go_sem]
   repeat' first
    |((first|apply qc|apply qb);exact rvk;simp only [go_sem];first|exact VLe.refl _|apply qd|apply qa|apply qe|skip)
    |with_reducible first|refine And.intro ?_ ?_|intro _
   all_goals try exact clz
   refine hKK _ _ ⟨O,.emp 0,.emp 0,.emp 0,.emp 0,.emp 0,.emp 0,.emp 0,hi2,Wk.trans (Wk.cells (j:=h.length+2) (v:=1) (ty:=71) (cs:= [strs names,qt gs,strs t,qz [],.nl]) (cs':=edL names gs t (z7 [])) ?w1 ?w2) ?w3⟩
   case w1=>simp only [go_sem]
   case w2=>exact ⟨VLe.refl _,VLe.refl _,VLe.refl _,VLe.refl _,zP,trivial⟩
   case w3=>
    simp only [go_sem]
    refine Wk.temps ?_
    (simp only [List.replicate,qz,go_sem,qj,qh,qg,qi];try (repeat' first|(with_reducible refine And.intro ?_ ?_)|(apply qd;omega)|(apply qa;rfl)|exact VLe.refl _))
  ·have hpos:=List.length_pos_iff.2 l0
   simp (disch:=omega) only [List.replicate,NL5,k2,i3',go_sem]
   repeat' first
    |((first|apply qc|apply qb);exact rvk;simp only [go_sem];first|exact VLe.refl _|apply qd|apply qa|apply qe|skip)
    |with_reducible first|refine And.intro ?_ ?_|intro _
   all_goals try exact clz
   refine zD (qyX l _ (h.length+3) (by simp only [go_sem,i3']) l0 (by omega)) (by exact flk) ?_
   simp (disch:=omega) only [NL5,go_sem]
   repeat' first
    |((first|apply qc|apply qb);exact rvk;simp only [go_sem];first|exact VLe.refl _|apply qd|apply qa|apply qe|skip)
    |with_reducible first|refine And.intro ?_ ?_|intro _
   all_goals try exact clz
   obtain ⟨w,hw⟩: ∃w,w=qx (some O)+1:=⟨_,rfl⟩
   simp only [←hw]
   refine zD (qz2 l (h.length+3) w 49 _ (by simp only [go_sem]) (by omega) hpos) (by exact flk) ?_
   simp (disch:=omega) only [go_sem]
   repeat' first
    |((first|apply qc|apply qb);exact rvk;simp only [go_sem];first|exact VLe.refl _|apply qd|apply qa|apply qe|skip)
    |with_reducible first|refine And.intro ?_ ?_|intro _
   all_goals try exact clz
   have hLn:=j8 l
   have hLm: ∀i,i<(z7 l).length→ ∃j,j<l.length∧(z7 l).getD i default=l.getD j default:=fun i hi=>by
    obtain ⟨j,hj,e⟩:=List.getElem_of_mem ((kH l).subset (zQ hi))
    exact ⟨j,hj,by rw [←e,gdqA,qU hj];rfl⟩
   obtain ⟨L,hL⟩: ∃L,L=z7 l:=⟨_,rfl⟩
   rw [←hL]at hLn
   simp only [←hL]at hLm hKK ⊢
   rw [←hLn]
   refine ⟨_,_,Wk.trans (Wk.fzCell (j:=h.length+2) (k:=h.length+3) (i:=3) (v:=1) (ty:=71) (cs:= [strs names,qt gs,strs t,.osl (h.length+3) w 6 0 L.length,.nl]) (c:= .osl (h.length+3) w 6 0 L.length) (c':=qz L) ?w1 rfl ?w2 (by omega) ?w3)
    (Wk.ownNil (j:=h.length+2) (i:=4) (k:=h.length+10) (v:=1) (ty:=71) (cs:= [strs names,qt gs,strs t,qz L,.nl]) (ve:=0) (sz:=1) ?w4 rfl ?w5),?_⟩
   case w1=>simp only [go_sem]
   case w2=>simp only [go_sem]
   case w3=>
    rw [qaq,getO_app]
    exact qov rfl
   case w4=>simp only [go_sem,List.set_cons_succ,List.set_cons_zero]
   case w5=>simp only [go_sem]
   have zl: ∀g,valL g .len [qz L]= .int .i64 L.length:=fun _=>rfl
   have zo: ∀g,okL g .len [qz L]=True:=fun _=>eq_true trivial
   simp (disch:=omega) only [List.set_cons_succ,List.set_cons_zero,zl,zo,go_sem]
   repeat' first
    |((first|apply qc|apply qb);exact rvk;simp only [go_sem];first|exact VLe.refl _|apply qd|apply qa|apply qe|skip)
    |with_reducible first|refine And.intro ?_ ?_|intro _
   all_goals try exact clz
   refine qn (T:=fun s:RSt=>qI 131 [(0,strs names),(1,qt gs),(8,.op h.length 1 0),(9,.op (h.length+1) 1 0),(10,.op (h.length+2) 1 0),(60,qz L),(61,.int .i64 L.length),(62,.int .i64 s.i)])
    (H:=fun s=>h++ [.mem 1 71 NL5,.mem 1 29 [.int .i64 0],.mem 1 71 [strs names,qt gs,strs t,qz L,.osl (h.length+10) s.v 1 0 s.i],.emp (w+1),s.O4,s.O5,s.O6,s.O7,.emp 0,s.O9,zt s.v 91 (msC names gs L s.i),.emp 0,.emp 0])
    (inv:=fun s=>s.i≤L.length∧qN [s.O4] 0=true∧qN [s.O5] 0=true∧qN [s.O6] 0=true∧qN [s.O7] 0=true∧qN [s.O9] 0=true) (m:=fun s=>L.length-s.i) ⟨0,0,.emp 0,.emp 0,.emp 0,.emp 0,.emp 0⟩ ⟨Nat.zero_le _,rfl,rfl,rfl,rfl,rfl⟩ (Wk.temps ?_) ?_
   ·(simp only [List.replicate,go_sem,qj,qh,qg,qi];try (repeat' first|(with_reducible refine And.intro ?_ ?_)|(apply qd;omega)|(apply qa;rfl)|exact VLe.refl _))
   rintro ⟨i,v,O4,O5,O6,O7,O9⟩ ⟨i1,p4,p5,p6,p7,p9⟩ K2 hK2
   simp only at i1 p4 p5 p6 p7 p9 hK2
   have p4': ∀m,qN (O4::m) 0=true:=fun _=>p4
   have p5': ∀m,qN (O5::m) 0=true:=fun _=>p5
   have p6': ∀m,qN (O6::m) 0=true:=fun _=>p6
   have p7': ∀m,qN (O7::m) 0=true:=fun _=>p7
   have p9': ∀m,qN (O9::m) 0=true:=fun _=>p9
   by_cases hi:i<L.length
   ·have k3:((i:Int)<L.length)=True:=eq_true (by omega)
    obtain ⟨jl,jl1,jl2⟩:=hLm i hi
    have hck:=kw.1 (hi2 jl jl1)
    have hvl:=hc.vl jl
    have hsgl:=hc.sg jl
    have hms:=qnL names gs L i
    have hml:=qrt names gs L i
    rw [←jl2]at hck hvl
    simp only [←jl2]at hsgl
    obtain ⟨x,hx⟩: ∃x,x=L.getD i default:=⟨_,rfl⟩
    have ex:=hx.symm
    rw [ex]at hck hvl hms
    simp only [ex]at hsgl
    have zv: ∀g,valL g .len [qB x.vars]= .int .i64 x.vars.length:=fun _=>rfl
    have zw: ∀g,okL g .len [qB x.vars]=True:=fun _=>eq_true trivial
    simp (disch:=omega) only [List.replicate,qz,enC,NL5,k3,ex,p4',p5',zv,zw,go_sem]
    repeat' first
     |((first|apply qc|apply qb);exact rvk;simp only [go_sem];first|exact VLe.refl _|apply qd|apply qa|apply qe|skip)
     |with_reducible first|refine And.intro ?_ ?_|intro _
    all_goals try exact clz
    refine qn (T:=fun s:RSt=>qI 131 [(0,strs names),(1,qt gs),(8,.op h.length 1 0),(9,.op (h.length+1) 1 0),(10,.op (h.length+2) 1 0),(16,.osl (h.length+5) s.v 1 0 s.i),(60,qz L),(61,.int .i64 L.length),(62,.int .i64 i),(67,qB x.vars),(68,.int .i64 x.vars.length),(69,.int .i64 s.i)])
     (H:=fun s=>h++ [.mem 1 71 NL5,.mem 1 29 [.int .i64 0],.mem 1 71 [strs names,qt gs,strs t,qz L,.osl (h.length+10) v 1 0 i],.emp (w+1),.mem (qx (some O4)+1) 49 (enC x),zt s.v 37 (stC names gs x s.i),s.O6,s.O7,.emp 0,O9,zt v 91 (msC names gs L i),.emp 0,.emp 0])
     (inv:=fun s=>s.i≤x.vars.length∧qN [s.O6] 0=true∧qN [s.O7] 0=true) (m:=fun s=>x.vars.length-s.i) ⟨0,qx (some O5)+1,.emp 0,.emp 0,O6,O7,.emp 0⟩ ⟨Nat.zero_le _,p6,p7⟩ (Wk.temps ?_) ?_
    ·(simp only [List.replicate,qz,go_sem,qj,qh,qg,qi];try (repeat' first|(with_reducible refine And.intro ?_ ?_)|(apply qd;omega)|(apply qa;rfl)|exact VLe.refl _))
    rintro ⟨j,u,Q4,Q5,Q6,Q7,Q9⟩ ⟨j1,q6,q7⟩ K3 hK3
    simp only at j1 q6 q7 hK3
    have q6': ∀m,qN (Q6::m) 0=true:=fun _=>q6
    have q7': ∀m,qN (Q7::m) 0=true:=fun _=>q7
    have hsj:=qoF names gs x j
    have hsl:=qse names gs x j
    by_cases hj:j<x.vars.length
    ·have k4:((j:Int)<x.vars.length)=True:=eq_true (by omega)
     have c62:=fun h=>qy1 names gs (x.vars.getD j default).sigla h hc.hz (by have:=hsgl j;omega)
     rw [hck.ev j hj]at c62
     obtain ⟨va,hva⟩: ∃va,va=x.vars.getD j default:=⟨_,rfl⟩
     have eva:=hva.symm
     simp only [eva]at c62 hsj
     have eT:List.take j (stC names gs x j)=stC names gs x j:=List.take_of_length_le (by omega)
     simp (disch:=omega) only [List.replicate,qB,vaC,k4,eva,q6',q7',Nat.mul_one,go_sem]
     repeat' first
      |((first|refine cA (c62 _) ?_ ?_|refine cG (fun e=>c62 _) ?_ ?_|refine cU (fun _=>c62 _) ?_ ?_);(next=>exact flk);simp (disch:=omega) only [qB,vaC,k4,eva,q6',q7',hsl,eT,Nat.mul_one,go_sem])
      |((first|apply qc|apply qb);exact rvk;simp only [go_sem];first|exact VLe.refl _|apply qd|apply qa|apply qe|skip)
      |with_reducible first|refine And.intro ?_ ?_|intro _
     all_goals try exact clz
     refine hK3 _ _ ⟨j+1,u+1,.emp 0,.emp 0,.mem (qx (some Q6)+1) 51 [strs va.words,strs va.sigla],.mem (qx (some Q7)+1) 37 [ql (zz names gs va.sigla)],.emp 0⟩ ⟨hj,rfl,rfl⟩ (by simp only;omega) ?_
     simp only
     rw [←hsj]
     refine Wk.temps ?_
     (simp only [List.replicate,qB,qz,go_sem,qj,qh,qg,qi];try (repeat' first|(with_reducible refine And.intro ?_ ?_)|(apply qd;omega)|(apply qa;rfl)|exact VLe.refl _))
    ·obtain rfl:j=x.vars.length:=by omega
     have k4:((x.vars.length:Int)<x.vars.length)=False:=eq_false (by omega)
     have eT:List.take i (msC names gs L i)=msC names gs L i:=List.take_of_length_le (by omega)
     simp (disch:=omega) only [List.replicate,k4,p9',Nat.mul_one,go_sem]
     repeat' first
      |((first|apply qc|apply qb);exact rvk;simp only [go_sem];first|exact VLe.refl _|apply qd|apply qa|apply qe|skip)
      |with_reducible first|refine And.intro ?_ ?_|intro _
     all_goals try exact clz
     rw [eT,j4 (qpF _ _ _ _ _)]
     refine hK2 _ _ ⟨i+1,v+1,.mem (qx (some O4)+1) 49 (enC x),.emp (u+1),Q6,Q7,.mem (qx (some O9)+1) 91 (.osl (h.length+5) u 1 0 x.vars.length::List.drop 1 (zk [AV.nl] 1))⟩ ⟨hi,rfl,rfl,q6,q7,rfl⟩ (by simp only;omega)
      (Wk.trans (Wk.fzCell (j:=h.length+10) (k:=h.length+5) (i:=i) (v:=v+1) (ty:=91) (cs:=msC names gs L i++ [.osl (h.length+5) u 1 0 x.vars.length]) (c:= .osl (h.length+5) u 1 0 x.vars.length) (c':=stV names gs x) ?w6 ?w7 ?w8 (by omega) ?w9) ?w10)
     case w6=>simp only [go_sem]
     case w7=>rw [List.getElem?_append_right (by omega),hml,Nat.sub_self];rfl
     case w8=>simp only [go_sem]
     case w9=>
      rw [qaq,getO_app]
      exact qf9 (fun _=>rfl) rfl
     case w10=>
      have eset:(msC names gs L i++ [AV.osl (h.length+5) u 1 0 x.vars.length]).set i (stV names gs x)=msC names gs L (i+1):=by
       rw [List.set_append_right _ _ (by omega),hml,Nat.sub_self,List.set_cons_zero,hms]
      have eown:zt (v+1) 91 (msC names gs L (i+1))= .mem (v+1) 91 (msC names gs L (i+1)):=j4 (by rw [←hms];exact qpF _ _ _ _ _)
      simp only [go_sem,eset,eown]
      refine Wk.temps ?_
      (simp only [List.replicate,qz,go_sem,qj,qh,qg,qi];try (repeat' first|(with_reducible refine And.intro ?_ ?_)|(apply qd;omega)|(apply qa;rfl)|exact VLe.refl _))
   ·obtain rfl:i=L.length:=by omega
    have k3:((L.length:Int)<L.length)=False:=eq_false (by omega)
    simp (disch:=omega) only [List.replicate,k3,go_sem]
    repeat' first
     |((first|apply qc|apply qb);exact rvk;simp only [go_sem];first|exact VLe.refl _|apply qd|apply qa|apply qe|skip)
     |with_reducible first|refine And.intro ?_ ?_|intro _
    all_goals try exact clz
    refine hKK _ _ ⟨.emp (w+1),O4,O5,O6,O7,.emp 0,O9,.emp (v+1),hi2,Wk.trans (Wk.fzCell (j:=h.length+2) (k:=h.length+10) (i:=4) (v:=1) (ty:=71) (cs:= [strs names,qt gs,strs t,qz L,.osl (h.length+10) v 1 0 L.length]) (c:= .osl (h.length+10) v 1 0 L.length) (c':=msV names gs L) ?w11 rfl ?w12 (by omega) ?w13) ?w14⟩
    case w11=>simp only [go_sem]
    case w12=>simp only [go_sem]
    case w13=>
     rw [qaq,getO_app]
     exact qf9 (fun _=>rfl) rfl
    case w14=>
     simp only [go_sem,List.set_cons_succ,List.set_cons_zero]
     refine Wk.temps ?_
     (simp only [List.replicate,qz,go_sem,qj,qh,qg,qi];try (repeat' first|(with_reducible refine And.intro ?_ ?_)|(apply qd;omega)|(apply qa;rfl)|exact VLe.refl _))
 case hy=>
  rintro tt hh ⟨O3,O4,O5,O6,O7,O8,O9,O10,hi2,hw⟩
  have hn0:=qA (f:=fun i=>kj names gs t (l.getD i default)) (fun j (hj:j<l.length)=>hi2 j hj)
  rw [if_neg (fun hc=>hc hn0)]at hR
  simp (disch:=omega) only [go_sem]
  refine ⟨_,_,hw,?_⟩
  have vl: ∀i,((z7 l).getD i default).vars.length≤1000000000:=fun i=>by
   by_cases hi:i<(z7 l).length
   ·obtain ⟨j,hj,e⟩:=List.getElem_of_mem ((kH l).subset (zQ hi))
    have:=hc.vl j
    rw [gdqA (l:=l),qU hj]at this
    rw [←e]
    have e2:(some l[j]).getD default=l[j]:=rfl
    rw [e2]at this
    omega
   ·rw [gdqA,List.getElem?_eq_none (by omega)]
    exact Nat.zero_le _
  have hLn:=j8 l
  have hfr: ∀(s:Nat) i,i<(ofE names gs l (s:Int)).length→0≤((ofE names gs l (s:Int)).getD i default).frm:=fun s i hi=>by
   have hm:=qeQ (zQ hi)
   obtain ⟨j,hj,e⟩:=List.getElem_of_mem hm
   have:=(kw.1 (hi2 j hj)).rng.1
   rw [gdqA (l:=l),qU hj]at this
   rw [←e]
   exact this
  have zl: ∀g,valL g .len [strs names]= .int .i64 names.length:=fun _=>rfl
  have zo: ∀g,okL g .len [strs names]=True:=fun _=>eq_true trivial
  simp (disch:=omega) only [List.replicate,zl,zo,go_sem]
  repeat' first
   |((first|apply qc|apply qb);exact rvk;simp only [go_sem];first|exact VLe.refl _|apply qd|apply qa|apply qe|skip)
   |with_reducible first|refine And.intro ?_ ?_|intro _
  all_goals try exact clz
  refine qn (T:=fun s:Nat×AObj×AObj=>qI 131 [(8,.op h.length 1 0),(9,.op (h.length+1) 1 0),(10,.op (h.length+2) 1 0),(98,.int .i64 names.length),(99,.int .i64 s.1)])
   (H:=fun s=>h++ [.mem 1 71 NL5,.mem 1 29 [.int .i64 0],.mem 1 71 (edL names gs t (z7 l)),O3,O4,O5,O6,O7,O8,O9,O10,s.2.1,s.2.2])
   (inv:=fun s=>s.1≤names.length∧(∀j,j<s.1→jT (ofE names gs l (j:Int))=false)∧qN [s.2.1] 0=true∧qN [s.2.2] 0=true∧ ∀n,k9 n s.2.2) (m:=fun s=>names.length-s.1) (0,.emp 0,.emp 0) ⟨Nat.zero_le _,fun j hj=>by omega,rfl,rfl,fun _=>trivial⟩ ?_ ?_
  ·refine Wk.temps ?_
   (simp only [List.replicate,go_sem,qj,qh,qg,qi];try (repeat' first|(with_reducible refine And.intro ?_ ?_)|(apply qd;omega)|(apply qa;rfl)|exact VLe.refl _))
  rintro ⟨s,O11,O12⟩ ⟨s1,s2,s3,s4,s5⟩ K hK
  simp only at s1 s2 s3 s4 s5 hK
  have s3': ∀m,qN (O11::m) 0=true:=fun _=>s3
  have s4': ∀m,qN (O12::m) 0=true:=fun _=>s4
  by_cases hs:s<names.length
  ·have k2:((s:Int)<names.length)=True:=eq_true (by omega)
   have c75:=fun h=>ofP names gs t (z7 l) (s:Int) h
   have hcl:=qbO (ofE names gs l (s:Int))
   have hfr:=hfr s
   have hxl:=qa3 names gs (z7 l) (s:Int)
   have hxg:=fun {i} hi=>qfv names gs (z7 l) (s:Int) (i:=i) hi
   have hF0:(z7 l).filter (qai names gs (s:Int))=ofE names gs l (s:Int):=rfl
   rw [hF0]at hxl
   simp only [hF0]at hxg
   obtain ⟨F,hF⟩: ∃F,F=ofE names gs l (s:Int):=⟨_,rfl⟩
   rw [←hF]at hcl hfr hxl
   simp only [←hF]at hxg
   obtain ⟨w,hw⟩: ∃w,qx (some O11)+1=w:=⟨_,rfl⟩
   unfold edL at c75
   simp (disch:=omega) only [List.replicate,edL,k2,s3',s4',zl,zo,hw,go_sem]
   repeat' first
    |((first|refine cA (c75 _) ?_ ?_|refine cG (fun e=>c75 _) ?_ ?_|refine cU (fun _=>c75 _) ?_ ?_);(next=>exact flk);simp (disch:=omega) only [edL,k2,s3',s4',zl,zo,hw,go_sem])
    |((first|apply qc|apply qb);exact rvk;simp only [go_sem];first|exact VLe.refl _|apply qd|apply qa|apply qe|skip)
    |with_reducible first|refine And.intro ?_ ?_|intro _
   all_goals try exact clz
   refine j5 (xs:=xsE names gs (z7 l) (s:Int)) (itO names gs t (z7 l) (s:Int) (by omega) vl) (qfw names gs (z7 l) (s:Int))
    (S:=fun i hh=> ∃O,qN [O] 0=true∧(∀n,k9 n O)∧(∀j,j+1<i→jV (F.getD j default) (F.getD (j+1) default)=false)∧hh=h++ [.mem 1 71 NL5,.mem 1 29 [.int .i64 0],.mem 1 71 (edL names gs t (z7 l)),O3,O4,O5,O6,O7,O8,O9,O10,.mem w 49 (qcV F i),O])
    (E:=fun e hh=>e= .ret∧rdE names gs t l=17∧ ∃O i,(∀n,k9 n O)∧hh=h++ [.mem 1 71 (edL names gs t (z7 l)),.mem 1 29 [.int .i64 17],.mem 1 71 (edL names gs t (z7 l)),O3,O4,O5,O6,O7,O8,O9,O10,.mem w 49 (qcV F i),O]) ?_ ?_ ?_ ?_ ?_ ?_ ?_
   ·rintro i hh ⟨O,o1,o2,o3,rfl⟩
    refine LowI.app rfl (fun o ho=> ?_)
    simp only [List.mem_cons,List.not_mem_nil,or_false]at ho
    rcases ho with rfl|rfl|rfl|rfl|rfl|rfl|rfl|rfl|rfl|rfl|rfl|rfl|rfl
    ·left;simp [NL5]
    ·left;simp
    ·left;simp [edL]
    all_goals first
     |(left;simp;done)
     |(right;exact ⟨o2 _,o2 _⟩)
     |(right;exact ⟨qau _ _ _,qau _ _ _⟩)
   ·rintro e hh ⟨rfl,_,O,i,o2,rfl⟩
    refine LowI.app rfl (fun o ho=> ?_)
    simp only [List.mem_cons,List.not_mem_nil,or_false]at ho
    rcases ho with rfl|rfl|rfl|rfl|rfl|rfl|rfl|rfl|rfl|rfl|rfl|rfl|rfl
    ·left;simp [edL]
    ·right;constructor<;>(intro c hc;simp only [List.mem_cons,List.not_mem_nil,or_false]at hc;subst hc;rfl)
    ·left;simp [edL]
    all_goals first
     |(left;simp;done)
     |(right;exact ⟨o2 _,o2 _⟩)
     |(right;exact ⟨qau _ _ _,qau _ _ _⟩)
   ·exact ⟨O12,s4,s5,fun j hj=>by omega,rfl⟩
   ·simp [zy,zy.lowVs,qbB,qcX,qcW,qeP]
    try omega
   ·rintro i hh tl LI TS hi ⟨O,o1,o2,o3,rfl⟩ hq K3 K4 hK3 hN hRt hX
    have o1': ∀m,qN (O::m) 0=true:=fun _=>o1
    rw [hxg hi]
    rw [hxl]at hi
    have hb:=hfr i hi
    obtain ⟨B,hB⟩: ∃B,B=F.getD i default:=⟨_,rfl⟩
    have eB:=hB.symm
    rw [eB]at hb
    simp only [qaX,eB]
    obtain ⟨u,hu⟩: ∃u,qx (some O)+1=u:=⟨_,rfl⟩
    simp (disch:=omega) only [List.append_assoc,o1',enC,hu,go_sem]
    refine hK3 _ _ (h++ [.mem 1 71 NL5,.mem 1 29 [.int .i64 0],.mem 1 71 (edL names gs t (z7 l)),O3,O4,O5,O6,O7,O8,O9,O10,.mem w 49 (qcV F i),.mem u 49 (enC B)]) (by simp [enC]) (by simp) ?_
    have hcf: ∀A,jV A B=(decide (B.frm<A.to)||decide (A.frm=B.frm)&&decide (A.to=B.to)):=fun _=>rfl
    have next: ∀X,X=h++ [.mem 1 71 NL5,.mem 1 29 [.int .i64 0],.mem 1 71 (edL names gs t (z7 l)),O3,O4,O5,O6,O7,O8,O9,O10,.mem w 49 (enC B),.mem u 49 (enC B)]++ .lp .busy TS LI::tl→
      (∀j,j+1<i+1→jV (F.getD j default) (F.getD (j+1) default)=false)→ ∀t3,K4 .normal t3 X:=by
     intro X hXe hcc t3
     refine hN _ _ _ hXe (by simp) ⟨.mem u 49 (enC B),rfl,fun n=>qeF B n,hcc,?_⟩
     show _=h++ [_,_,_,_,_,_,_,_,_,_,_,.mem w 49 (enC (F.getD i default)),_]
     rw [eB]
    cases i with
    |zero=>
     have r1:(B.frm< -1)=False:=eq_false (by omega)
     have r2:(B.frm= -1)=False:=eq_false (by omega)
     simp (disch:=omega) only [List.append_assoc,qcV,enC,r1,r2,go_sem]
     repeat' first
      |((first|apply qc|apply qb);exact rvk;simp only [go_sem];first|exact VLe.refl _|apply qd|apply qa|apply qe|skip)
      |with_reducible first|refine And.intro ?_ ?_|intro _
     all_goals try exact clz
     refine next _ ?_ (fun j hj=>by omega) _
     simp [enC]
    |succ i=>
     have o4:jV (F.getD i default) B=false→ ∀j,j+1<i+1+1→jV (F.getD j default) (F.getD (j+1) default)=false:=by
      intro hcc j hj
      by_cases e:j=i
      ·subst e;rw [eB];exact hcc
      ·exact o3 j (by omega)
     have o5:jV (F.getD i default) B=true→rdE names gs t l=17:=by
      intro hcc
      rw [hR,if_pos]
      unfold zG
      rw [za]
      refine ⟨s,hs,?_⟩
      rw [←hF,hcl]
      exact ⟨i,hi,by rw [eB];exact hcc⟩
     have eS:qcV F (i+1)=enC (F.getD i default):=rfl
     obtain ⟨A,hA⟩: ∃A,A=F.getD i default:=⟨_,rfl⟩
     rw [←hA]at o4 o5 eS
     rw [eS]
     have hcfA:=hcf A
     have bad:jV A B=true→ ∀X,X=h++ [.mem 1 71 (edL names gs t (z7 l)),.mem 1 29 [.int .i64 17],.mem 1 71 (edL names gs t (z7 l)),O3,O4,O5,O6,O7,O8,O9,O10,.mem w 49 (enC A),.mem u 49 (enC B)]++ .lp .busy TS LI::tl→ ∀t3,K4 .ret t3 X:=by
      intro hcc X hXe t3
      refine hRt _ _ _ hXe (by simp) ⟨rfl,o5 hcc,.mem u 49 (enC B),i+1,fun n=>qeF B n,?_⟩
      rw [eS]
     by_cases b1:B.frm<A.to
     ·have r1:(B.frm<A.to)=True:=eq_true b1
      simp (disch:=omega) only [List.append_assoc,enC,edL,NL5,r1,go_sem]
      repeat' first
       |((first|apply qc|apply qb);exact rvk;simp only [go_sem];first|exact VLe.refl _|apply qd|apply qa|apply qe|skip)
       |with_reducible first|refine And.intro ?_ ?_|intro _
      all_goals try exact clz
      refine bad (by rw [hcfA,decide_eq_true b1];rfl) _ ?_ _
      simp [enC,edL]
     have r1:(B.frm<A.to)=False:=eq_false b1
     by_cases b2:A.frm=B.frm
     ·have r2:(B.frm=A.frm)=True:=eq_true b2.symm
      by_cases b3:A.to=B.to
      ·have r3:(B.to=A.to)=True:=eq_true b3.symm
       simp (disch:=omega) only [List.append_assoc,enC,edL,NL5,r1,r2,r3,go_sem]
       repeat' first
        |((first|apply qc|apply qb);exact rvk;simp only [go_sem];first|exact VLe.refl _|apply qd|apply qa|apply qe|skip)
        |with_reducible first|refine And.intro ?_ ?_|intro _
       all_goals try exact clz
       refine bad (by rw [hcfA,decide_eq_true b2,decide_eq_true b3,Bool.and_true,Bool.or_true]) _ ?_ _
       simp [enC,edL]
      ·have r3:(B.to=A.to)=False:=eq_false (fun e=>b3 e.symm)
       simp (disch:=omega) only [List.append_assoc,enC,r1,r2,r3,go_sem]
       repeat' first
        |((first|apply qc|apply qb);exact rvk;simp only [go_sem];first|exact VLe.refl _|apply qd|apply qa|apply qe|skip)
        |with_reducible first|refine And.intro ?_ ?_|intro _
       all_goals try exact clz
       refine next _ ?_ (o4 (by rw [hcfA,decide_eq_false b1,decide_eq_false b3,Bool.and_false,Bool.or_false])) _
       simp [enC]
     ·have r2:(B.frm=A.frm)=False:=eq_false (fun e=>b2 e.symm)
      simp (disch:=omega) only [List.append_assoc,enC,r1,r2,go_sem]
      repeat' first
       |((first|apply qc|apply qb);exact rvk;simp only [go_sem];first|exact VLe.refl _|apply qd|apply qa|apply qe|skip)
       |with_reducible first|refine And.intro ?_ ?_|intro _
      all_goals try exact clz
      refine next _ ?_ (o4 (by rw [hcfA,decide_eq_false b1,decide_eq_false b2,Bool.false_and,Bool.or_false])) _
      simp [enC]
   ·rintro hh ⟨O,o1,o2,o3,rfl⟩
    rw [hxl]at o3 ⊢
    simp (disch:=omega) only [go_sem]
    repeat' first
     |((first|apply qc|apply qb);exact rvk;simp only [go_sem];first|exact VLe.refl _|apply qd|apply qa|apply qe|skip)
     |with_reducible first|refine And.intro ?_ ?_|intro _
    all_goals try exact clz
    refine hK _ _ (s+1,.mem w 49 (qcV F F.length),O) ⟨hs,fun j hj=> ?_,rfl,o1,o2⟩ (by simp only;omega) (Wk.temps ?_)
    ·by_cases e:j=s
     ·subst e
      rw [←hF]
      cases e:jT F with
      |false=>rfl
      |true=>
       obtain ⟨m,m1,m2⟩:=hcl.1 e
       rw [o3 m m1]at m2;cases m2
     ·exact s2 j (by simp only at hj;omega)
    ·(simp only [List.replicate,edL,go_sem,qj,qh,qg,qi];try (repeat' first|(with_reducible refine And.intro ?_ ?_)|(apply qd;omega)|(apply qa;rfl)|exact VLe.refl _))
   ·rintro e hh ⟨rfl,h17,O,i,o2,rfl⟩
    rw [qbe (by rw [h17];decide),h17]
    simp (disch:=omega) only [edL,go_sem]
    repeat' first
     |((first|apply qc|apply qb);exact rvk;simp only [go_sem];first|exact VLe.refl _|apply qd|apply qa|apply qe|skip)
     |with_reducible first|refine And.intro ?_ ?_|intro _
    all_goals try exact clz
    exact qwG _ _ _ _ _ _
  ·have k2:((s:Int)<names.length)=False:=eq_false (by omega)
   have hz:zG names gs l=false:=qE.2 fun j hj=>s2 j (by omega)
   rw [if_neg (by rw [hz];simp)]at hR
   rw [qct hR,hR]
   simp (disch:=omega) only [List.replicate,k2,edL,NL5,go_sem]
   repeat' first
    |((first|apply qc|apply qb);exact rvk;simp only [go_sem];first|exact VLe.refl _|apply qd|apply qa|apply qe|skip)
    |with_reducible first|refine And.intro ?_ ?_|intro _
   all_goals try exact clz
end RC
end
section
open Go Go.Proofs AF HY LN
namespace RC
set_option maxHeartbeats 8000000
theorem qa0 {P:En→Prop} {l:List En} (h: ∀i,P (l.getD i default)): ∀i,P ((z7 l).getD i default):=fun i=>by
 by_cases hi:i<(z7 l).length
 ·obtain ⟨j,hj,e⟩:=List.getElem_of_mem ((kH l).subset (zQ hi))
  have:=h j
  rw [gdqA (l:=l),qU hj]at this
  rw [←e]
  exact this
 ·have:=h l.length
  rw [gdqA,List.getElem?_eq_none (Nat.le_refl _)]at this
  rw [gdqA,List.getElem?_eq_none (by omega)]
  exact this
theorem qwG (a b c d e:AV) (n:Int):VLe (.tup [.agg [a,b,c,d,e],.int .i64 n]) (.tup [.agg [.undef,.undef,.undef,.undef,.undef],.int .i64 n]):=by
 have u: ∀a,VLe a .undef:=fun a w σ x _=> .imm .undef
 exact qV ⟨VLe.agg ⟨u _,u _,u _,u _,u _,trivial⟩,VLe.refl _,trivial⟩
section
variable (names : List Str) (gs : List Gr) (t : List Str) (l : List En) (src : Int) (h : List AObj)
theorem qwC (hc:CSz names gs t l) (hp:kh SG h):qm Tryz.prog 43 [strs names,qt gs,strs t,qz l] h (.tup [rdV names gs t l,.int .i64 (opE (rdE names gs t l))]) h:=by
 have c48:=fun l'=>qx1 names gs t l (h++l') hc (hp.app l')
 by_cases g:rdE names gs t l=0
 ·have e1:=qct g
  simp only [e1,g]at c48
  have e2:opE 0=0:=rfl
  rw [e1,g,e2]
  unfold edL at c48 ⊢
  refine acO quK ?_
  simp (disch:=omega) only [qwS,List.replicate,go_sem]
  repeat' first
   |((first|refine cA (c48 _) ?_ ?_|refine cG (fun e=>c48 _) ?_ ?_|refine cU (fun _=>c48 _) ?_ ?_);(next=>exact flk);simp (disch:=omega) only [go_sem])
   |((first|apply qc|apply qb);exact rvk;simp only [go_sem];first|exact VLe.refl _|apply qd|apply qa|apply qe|skip)
   |with_reducible first|refine And.intro ?_ ?_|intro _
  all_goals try exact clz
 ·have e1:=qbe g
  have k1:(rdE names gs t l=0)=False:=eq_false g
  have e2:opE (rdE names gs t l)=1:=if_neg g
  simp only [e1]at c48
  rw [e1,e2]
  refine acO quK ?_
  simp (disch:=omega) only [qwS,List.replicate,k1,go_sem]
  repeat' first
   |((first|refine cA (c48 _) ?_ ?_|refine cG (fun e=>c48 _) ?_ ?_|refine cU (fun _=>c48 _) ?_ ?_);(next=>exact flk);simp (disch:=omega) only [k1,go_sem])
   |((first|apply qc|apply qb);exact rvk;simp only [go_sem];first|exact VLe.refl _|apply qd|apply qa|apply qe|skip)
   |with_reducible first|refine And.intro ?_ ?_|intro _
  all_goals try exact clz
theorem qdL {n:Nat}:(src<0∧inR names src=false)∨(0≤src∧(names.length:Int)≤src∧inR names src=false)∨(∃s:Nat,src=(s:Int)∧s<names.length∧inR names src=true):=by
 unfold inR
 by_cases h1:0≤src
 ·by_cases h2:src<names.length
  ·refine .inr (.inr ⟨src.toNat,by omega,by omega,by simp [h1,h2]⟩)
  ·refine .inr (.inl ⟨h1,by omega,by simp [h2]⟩)
 ·refine .inl ⟨by omega,by simp [h1]⟩
theorem qx8 (hc:CSz names gs t l) (hp:kh SG h):qm Tryz.prog 12 [strs names,qt gs,strs t,qz l,.int .i64 src] h (.tup [strs (qx7 names gs t l src),.int .i64 (qmh names gs t l src)]) h:=by
 have c43:=fun l'=>qwC names gs t l (h++l') hc (hp.app l')
 unfold qx7
 have nl0:VLe AV.nl (strs []):=zP
 by_cases g:rdE names gs t l=0
 case neg=>
  have e1:=qbe g
  have e2:opE (rdE names gs t l)=1:=if_neg g
  have e3:qmh names gs t l src=1:=if_neg g
  simp only [e1,e2]at c43
  rw [e3,if_neg (by decide)]
  refine acO qni ?_
  simp (disch:=omega) only [qte,List.replicate,go_sem]
  repeat' first
   |((first|refine cA (c43 _) ?_ ?_|refine cG (fun e=>c43 _) ?_ ?_|refine cU (fun _=>c43 _) ?_ ?_);(next=>exact flk);simp (disch:=omega) only [go_sem])
   |((first|apply qc|apply qb);exact rvk;simp only [go_sem];first|exact VLe.refl _|apply qd|apply qa|apply qe|skip)
   |with_reducible first|refine And.intro ?_ ?_|intro _
  all_goals try exact clz
  exact qV ⟨nl0,VLe.refl _,trivial⟩
 have e1:=qct g
 have e2:opE 0=0:=rfl
 have e3:qmh names gs t l src=if inR names src=true then 0 else 2:=if_pos g
 simp only [e1,g,e2]at c43
 rcases qdL names src (n:=0)with ⟨i1,i2⟩|⟨i1,i2,i3⟩|⟨s,rfl,i1,i2⟩
 ·rw [e3,i2,if_neg (by simp),if_neg (by decide)]
  have k1:(src<0)=True:=eq_true i1
  unfold edL at c43
  refine acO qni ?_
  simp (disch:=omega) only [qte,List.replicate,k1,go_sem]
  repeat' first
   |((first|refine cA (c43 _) ?_ ?_|refine cG (fun e=>c43 _) ?_ ?_|refine cU (fun _=>c43 _) ?_ ?_);(next=>exact flk);simp (disch:=omega) only [k1,go_sem])
   |((first|apply qc|apply qb);exact rvk;simp only [go_sem];first|exact VLe.refl _|apply qd|apply qa|apply qe|skip)
   |with_reducible first|refine And.intro ?_ ?_|intro _
  all_goals try exact clz
  exact qV ⟨nl0,VLe.refl _,trivial⟩
 ·rw [e3,i3,if_neg (by simp),if_neg (by decide)]
  have k1:(src<0)=False:=eq_false (by omega)
  have k2:((names.length:Int)≤src)=True:=eq_true i2
  unfold edL strs at c43
  refine acO qni ?_
  simp (disch:=omega) only [qte,List.replicate,k1,strs,go_sem]
  repeat' first
   |((first|refine cA (c43 _) ?_ ?_|refine cG (fun e=>c43 _) ?_ ?_|refine cU (fun _=>c43 _) ?_ ?_);(next=>exact flk);simp (disch:=omega) only [k1,k2,strs,go_sem])
   |((first|apply qc|apply qb);exact rvk;simp only [go_sem];first|exact VLe.refl _|apply qd|apply qa|apply qe|skip)
   |with_reducible first|refine And.intro ?_ ?_|intro _
  all_goals try exact clz
  exact qV ⟨nl0,VLe.refl _,trivial⟩
 ·rw [e3,i2,if_pos rfl,if_pos rfl]
  have k1:((s:Int)<0)=False:=eq_false (by omega)
  have k2:((names.length:Int)≤s)=False:=eq_false (by omega)
  have zl: ∀g,valL g .len [strs names]= .int .i64 names.length:=fun _=>rfl
  have zo: ∀g,okL g .len [strs names]=True:=fun _=>eq_true trivial
  have hLn:=j8 l
  have c44:=fun h=>qze names gs t (z7 l) (s:Int) h (by have:=hc.ln;omega) (qa0 (P:=fun e=>e.vars.length≤1000) hc.vl) (qa0 (P:=fun e=> ∀j,(e.vars.getD j default).words.length≤1000) hc.wl) hc.tn ((qcs.1 g).tx i1)
  have eT:qhH names gs t (s:Int) ((z7 l).filter (qai names gs (s:Int))) 0=qfj names gs t l (s:Int):=rfl
  simp only [eT]at c44
  unfold edL at c43 c44
  refine acO qni ?_
  simp (disch:=omega) only [qte,List.replicate,k1,zl,zo,go_sem]
  repeat' first
   |((first|refine cA (c43 _) ?_ ?_|refine cG (fun e=>c43 _) ?_ ?_|refine cA (c44 _) ?_ ?_|refine cG (fun e=>c44 _) ?_ ?_|refine cU (fun _=>c43 _) ?_ ?_|refine cU (fun _=>c44 _) ?_ ?_);(next=>exact flk);simp (disch:=omega) only [k1,k2,zl,zo,go_sem])
   |((first|apply qc|apply qb);exact rvk;simp only [go_sem];first|exact VLe.refl _|apply qd|apply qa|apply qe|skip)
   |with_reducible first|refine And.intro ?_ ?_|intro _
  all_goals try exact clz
theorem qxd (hc:CSz names gs t l) (hp:kh SG h):qm Tryz.prog 16 [strs names,qt gs,strs t,qz l,.int .i64 src] h (.tup [.int .i64 (qxc names gs t l src),.int .i64 (qmh names gs t l src)]) h:=by
 have c43:=fun l'=>qwC names gs t l (h++l') hc (hp.app l')
 unfold qxc
 by_cases g:rdE names gs t l=0
 case neg=>
  have e1:=qbe g
  have e2:opE (rdE names gs t l)=1:=if_neg g
  have e3:qmh names gs t l src=1:=if_neg g
  simp only [e1,e2]at c43
  rw [e3,if_neg (by decide)]
  refine acO qnj ?_
  simp (disch:=omega) only [qtn,List.replicate,go_sem]
  repeat' first
   |((first|refine cA (c43 _) ?_ ?_|refine cG (fun e=>c43 _) ?_ ?_|refine cU (fun _=>c43 _) ?_ ?_);(next=>exact flk);simp (disch:=omega) only [go_sem])
   |((first|apply qc|apply qb);exact rvk;simp only [go_sem];first|exact VLe.refl _|apply qd|apply qa|apply qe|skip)
   |with_reducible first|refine And.intro ?_ ?_|intro _
  all_goals try exact clz
 have e1:=qct g
 have e2:opE 0=0:=rfl
 have e3:qmh names gs t l src=if inR names src=true then 0 else 2:=if_pos g
 simp only [e1,g,e2]at c43
 rcases qdL names src (n:=0)with ⟨i1,i2⟩|⟨i1,i2,i3⟩|⟨s,rfl,i1,i2⟩
 ·rw [e3,i2,if_neg (by simp),if_neg (by decide)]
  have k1:(src<0)=True:=eq_true i1
  unfold edL at c43
  refine acO qnj ?_
  simp (disch:=omega) only [qtn,List.replicate,k1,go_sem]
  repeat' first
   |((first|refine cA (c43 _) ?_ ?_|refine cG (fun e=>c43 _) ?_ ?_|refine cU (fun _=>c43 _) ?_ ?_);(next=>exact flk);simp (disch:=omega) only [k1,go_sem])
   |((first|apply qc|apply qb);exact rvk;simp only [go_sem];first|exact VLe.refl _|apply qd|apply qa|apply qe|skip)
   |with_reducible first|refine And.intro ?_ ?_|intro _
  all_goals try exact clz
 ·rw [e3,i3,if_neg (by simp),if_neg (by decide)]
  have k1:(src<0)=False:=eq_false (by omega)
  have k2:((names.length:Int)≤src)=True:=eq_true i2
  unfold edL strs at c43
  refine acO qnj ?_
  simp (disch:=omega) only [qtn,List.replicate,k1,strs,go_sem]
  repeat' first
   |((first|refine cA (c43 _) ?_ ?_|refine cG (fun e=>c43 _) ?_ ?_|refine cU (fun _=>c43 _) ?_ ?_);(next=>exact flk);simp (disch:=omega) only [k1,k2,strs,go_sem])
   |((first|apply qc|apply qb);exact rvk;simp only [go_sem];first|exact VLe.refl _|apply qd|apply qa|apply qe|skip)
   |with_reducible first|refine And.intro ?_ ?_|intro _
  all_goals try exact clz
 ·rw [e3,i2,if_pos rfl,if_pos rfl]
  have k1:((s:Int)<0)=False:=eq_false (by omega)
  have k2:((names.length:Int)≤s)=False:=eq_false (by omega)
  have zl: ∀g,valL g .len [strs names]= .int .i64 names.length:=fun _=>rfl
  have zo: ∀g,okL g .len [strs names]=True:=fun _=>eq_true trivial
  have hLn:=j8 l
  have c46:=fun h=>qy0 names gs t (z7 l) (s:Int) h (by have:=hc.ln;omega) (qa0 (P:=fun e=>e.vars.length≤1000000000) (fun i=>by have:=hc.vl i;omega))
  have eT:(z7 l).filter (qai names gs (s:Int))=ofE names gs l (s:Int):=rfl
  simp only [eT]at c46
  unfold edL at c43 c46
  refine acO qnj ?_
  simp (disch:=omega) only [qtn,List.replicate,k1,zl,zo,go_sem]
  repeat' first
   |((first|refine cA (c43 _) ?_ ?_|refine cG (fun e=>c43 _) ?_ ?_|refine cA (c46 _) ?_ ?_|refine cG (fun e=>c46 _) ?_ ?_|refine cU (fun _=>c43 _) ?_ ?_|refine cU (fun _=>c46 _) ?_ ?_);(next=>exact flk);simp (disch:=omega) only [k1,k2,zl,zo,go_sem])
   |((first|apply qc|apply qb);exact rvk;simp only [go_sem];first|exact VLe.refl _|apply qd|apply qa|apply qe|skip)
   |with_reducible first|refine And.intro ?_ ?_|intro _
  all_goals try exact clz
theorem qow {v n:Nat} {L:List (List Str)} {g:AV→AV} (hg: ∀s,g (strs s)=strs s) (hn:n=L.length):VLe (qe1 (some (zt v 22 (qdj L))) v 1 0 n g) (jC L):=by
 subst hn
 by_cases h:L= []
 ·subst h
  show VLe (qe1 (some (.emp v)) v 1 0 0 g) _
  rw [slOf_emp,if_pos rfl]
  exact zP
 ·have e0:zt v 22 (qdj L)= .mem v 22 (qdj L):=j4 (by simpa [qdj] using h)
  rw [e0,slOf_mem,if_pos ⟨rfl,by rw [qgd];omega⟩]
  simp only [Nat.zero_add,Nat.mul_one]
  exact qoR g hg rfl
theorem j7 {v n:Nat} {L:List Int} {g:AV→AV} (hg: ∀s,g (.int .i64 s)= .int .i64 s) (hn:n=L.length):VLe (qe1 (some (zt v 3 (qs L))) v 1 0 n g) (ql L):=by
 subst hn
 by_cases h:L= []
 ·subst h
  show VLe (qe1 (some (.emp v)) v 1 0 0 g) _
  rw [slOf_emp,if_pos rfl]
  exact zP
 ·have e0:zt v 3 (qs L)= .mem v 3 (qs L):=j4 (fun e=>h (qdN.1 e))
  rw [e0,slOf_mem,if_pos ⟨rfl,by rw [qF];omega⟩]
  simp only [Nat.zero_add,Nat.mul_one]
  exact zS g hg rfl
theorem qp4 (hc:CSz names gs t l) (hp:kh SG h):qm Tryz.prog 14 [strs names,qt gs,strs t,qz l] h (.tup [jC (qmc names gs t l),.int .i64 (opE (rdE names gs t l))]) h:=by
 have c43:=fun l'=>qwC names gs t l (h++l') hc (hp.app l')
 unfold qmc
 have nl0:VLe AV.nl (jC []):=zP
 have hnn:=hc.nn
 by_cases g:rdE names gs t l=0
 case neg=>
  have e1:=qbe g
  have e2:opE (rdE names gs t l)=1:=if_neg g
  simp only [e1,e2]at c43
  rw [e2,if_neg g]
  refine acO qun ?_
  simp (disch:=omega) only [qwM,List.replicate,go_sem]
  repeat' first
   |((first|refine cA (c43 _) ?_ ?_|refine cG (fun e=>c43 _) ?_ ?_|refine cU (fun _=>c43 _) ?_ ?_);(next=>exact flk);simp (disch:=omega) only [go_sem])
   |((first|apply qc|apply qb);exact rvk;simp only [go_sem];first|exact VLe.refl _|apply qd|apply qa|apply qe|skip)
   |with_reducible first|refine And.intro ?_ ?_|intro _
  all_goals try exact clz
  exact qV ⟨nl0,VLe.refl _,trivial⟩
 have e1:=qct g
 have e2:opE 0=0:=rfl
 simp only [e1,g,e2]at c43
 rw [if_pos g,g,e2]
 have zl: ∀g,valL g .len [strs names]= .int .i64 names.length:=fun _=>rfl
 have zo: ∀g,okL g .len [strs names]=True:=fun _=>eq_true trivial
 have hLn:=j8 l
 have hok:=qcs.1 g
 unfold edL at c43
 refine acO qun ?_
 simp (disch:=omega) only [qwM,List.replicate,zl,zo,go_sem]
 repeat' first
  |((first|refine cA (c43 _) ?_ ?_|refine cG (fun e=>c43 _) ?_ ?_|refine cU (fun _=>c43 _) ?_ ?_);(next=>exact flk);simp (disch:=omega) only [zl,zo,go_sem])
  |((first|apply qc|apply qb);exact rvk;simp only [go_sem];first|exact VLe.refl _|apply qd|apply qa|apply qe|skip)
  |with_reducible first|refine And.intro ?_ ?_|intro _
 all_goals try exact clz
 refine qn (T:=fun i:Nat×Nat×AObj=>qI 38 [(10,.op (h.length+1) 1 0),(12,.osl (h.length+2) i.2.1 1 0 i.1),(26,.int .i64 names.length),(27,.int .i64 i.1)])
  (H:=fun i=>h++ [.emp 1,.mem 1 71 (edL names gs t (z7 l)),zt i.2.1 22 (qdj (qhX names gs t l i.1)),i.2.2,.emp 0])
  (inv:=fun i=>i.1≤names.length∧qN [i.2.2] 0=true) (m:=fun i=>names.length-i.1) (0,1,.emp 0) ⟨Nat.zero_le _,rfl⟩ (Wk.temps ?_) ?_
 ·(simp only [List.replicate,go_sem,qj,qh,qg,qi];try (repeat' first|(with_reducible refine And.intro ?_ ?_)|(apply qd;omega)|(apply qa;rfl)|exact VLe.refl _))
 rintro ⟨i,v,O⟩ ⟨i1,i2⟩ K hK
 simp only at i1 i2 hK
 have i2': ∀m,qN (O::m) 0=true:=fun _=>i2
 have hst:=qh5 names gs t l i
 have hln:=qcD names gs t l i
 by_cases hi:i<names.length
 ·have k1:((i:Int)<names.length)=True:=eq_true (by omega)
  have c44:=fun h=>qze names gs t (z7 l) (i:Int) h (by have:=hc.ln;omega) (qa0 (P:=fun e=>e.vars.length≤1000) hc.vl) (qa0 (P:=fun e=> ∀j,(e.vars.getD j default).words.length≤1000) hc.wl) hc.tn (hok.tx hi)
  have eT:qhH names gs t (i:Int) ((z7 l).filter (qai names gs (i:Int))) 0=qfj names gs t l (i:Int):=rfl
  simp only [eT]at c44
  obtain ⟨L,hL⟩: ∃L,L=qhX names gs t l i:=⟨_,rfl⟩
  rw [←hL]at hst hln
  have eL:=hL.symm
  have eC:=qgd L
  have eTk:List.take i (qdj L)=qdj L:=List.take_of_length_le (by omega)
  unfold edL at c44
  simp (disch:=omega) only [List.replicate,edL,k1,i2',eL,Nat.mul_one,go_sem]
  repeat' first
   |((first|refine cA (c44 _) ?_ ?_|refine cG (fun e=>c44 _) ?_ ?_|refine cU (fun _=>c44 _) ?_ ?_);(next=>exact flk);simp (disch:=omega) only [edL,k1,i2',eL,eC,hln,eTk,Nat.mul_one,go_sem])
   |((first|apply qc|apply qb);exact rvk;simp only [go_sem];first|exact VLe.refl _|apply qd|apply qa|apply qe|skip)
   |with_reducible first|refine And.intro ?_ ?_|intro _
  all_goals try exact clz
  have eA:qdj L++ [strs (qfj names gs t l (i:Int))]=qdj (qhX names gs t l (i+1)):=by rw [hst,qoP];rfl
  try rw [eTk]
  rw [eA]
  refine hK _ _ (i+1,v+1,.mem (qx (some O)+1) 22 [strs (qfj names gs t l (i:Int))]) ⟨hi,rfl⟩ (by simp only;omega) (Wk.temps ?_)
  (simp only [List.replicate,go_sem,qj,qh,qg,qi];try (repeat' first|(with_reducible refine And.intro ?_ ?_)|(apply qd;omega)|(apply qa;rfl)|exact VLe.refl _))
 ·obtain rfl:i=names.length:=by omega
  have k1:((names.length:Int)<names.length)=False:=eq_false (by omega)
  simp (disch:=omega) only [List.replicate,k1,go_sem]
  repeat' first
   |((first|apply qc|apply qb);exact rvk;simp only [go_sem];first|exact VLe.refl _|apply qd|apply qa|apply qe|skip)
   |with_reducible first|refine And.intro ?_ ?_|intro _
  all_goals try exact clz
  exact qV ⟨qow (fun _=>rfl) hln.symm,VLe.refl _,trivial⟩
theorem qwK (hc:CSz names gs t l) (hp:kh SG h):qm Tryz.prog 18 [strs names,qt gs,strs t,qz l] h (.tup [ql (qwJ names gs t l),.int .i64 (opE (rdE names gs t l))]) h:=by
 have c43:=fun l'=>qwC names gs t l (h++l') hc (hp.app l')
 unfold qwJ
 have hnn:=hc.nn
 by_cases g:rdE names gs t l=0
 case neg=>
  have e1:=qbe g
  have e2:opE (rdE names gs t l)=1:=if_neg g
  simp only [e1,e2]at c43
  rw [e2,if_neg g]
  refine acO quD ?_
  simp (disch:=omega) only [qwN,List.replicate,go_sem]
  repeat' first
   |((first|refine cA (c43 _) ?_ ?_|refine cG (fun e=>c43 _) ?_ ?_|refine cU (fun _=>c43 _) ?_ ?_);(next=>exact flk);simp (disch:=omega) only [go_sem])
   |((first|apply qc|apply qb);exact rvk;simp only [go_sem];first|exact VLe.refl _|apply qd|apply qa|apply qe|skip)
   |with_reducible first|refine And.intro ?_ ?_|intro _
  all_goals try exact clz
  exact zE
 have e1:=qct g
 have e2:opE 0=0:=rfl
 simp only [e1,g,e2]at c43
 rw [if_pos g,g,e2]
 have zl: ∀g,valL g .len [strs names]= .int .i64 names.length:=fun _=>rfl
 have zo: ∀g,okL g .len [strs names]=True:=fun _=>eq_true trivial
 have hLn:=j8 l
 unfold edL at c43
 refine acO quD ?_
 simp (disch:=omega) only [qwN,List.replicate,zl,zo,go_sem]
 repeat' first
  |((first|refine cA (c43 _) ?_ ?_|refine cG (fun e=>c43 _) ?_ ?_|refine cU (fun _=>c43 _) ?_ ?_);(next=>exact flk);simp (disch:=omega) only [zl,zo,go_sem])
  |((first|apply qc|apply qb);exact rvk;simp only [go_sem];first|exact VLe.refl _|apply qd|apply qa|apply qe|skip)
  |with_reducible first|refine And.intro ?_ ?_|intro _
 all_goals try exact clz
 refine qn (T:=fun i:Nat×Nat×AObj=>qI 40 [(10,.op (h.length+1) 1 0),(12,.osl (h.length+2) i.2.1 1 0 (qS (noE names gs l) i.1).length),(26,.int .i64 names.length),(27,.int .i64 i.1)])
  (H:=fun i=>h++ [.emp 1,.mem 1 71 (edL names gs t (z7 l)),zt i.2.1 3 (qs (qS (noE names gs l) i.1)),i.2.2,.emp 0])
  (inv:=fun i=>i.1≤names.length∧qN [i.2.2] 0=true) (m:=fun i=>names.length-i.1) (0,1,.emp 0) ⟨Nat.zero_le _,rfl⟩ (Wk.temps ?_) ?_
 ·(simp only [qS,List.range_zero,List.filter_nil,List.length_nil,List.replicate,go_sem,qj,qh,qg,qi];try (repeat' first|(with_reducible refine And.intro ?_ ?_)|(apply qd;omega)|(apply qa;rfl)|exact VLe.refl _))
 rintro ⟨i,v,O⟩ ⟨i1,i2⟩ K hK
 simp only at i1 i2 hK
 have i2': ∀m,qN (O::m) 0=true:=fun _=>i2
 have hst:=zT (noE names gs l) i
 have hln:=qX (noE names gs l) i
 have hnE:noE names gs l i=decide ((ofE names gs l (i:Int)).length=0):=rfl
 obtain ⟨L,hL⟩: ∃L,L=qS (noE names gs l) i:=⟨_,rfl⟩
 rw [←hL]at hst hln
 have eL:=hL.symm
 have eC:=qF L
 by_cases hi:i<names.length
 ·have k1:((i:Int)<names.length)=True:=eq_true (by omega)
  have c46:=fun h=>qy0 names gs t (z7 l) (i:Int) h (by have:=hc.ln;omega) (qa0 (P:=fun e=>e.vars.length≤1000000000) (fun i=>by have:=hc.vl i;omega))
  have eF:(z7 l).filter (qai names gs (i:Int))=ofE names gs l (i:Int):=rfl
  simp only [eF]at c46
  have eTk:List.take L.length (qs L)=qs L:=List.take_of_length_le (by omega)
  unfold edL at c46
  obtain ⟨q,hq⟩: ∃q,q=(ofE names gs l (i:Int)).length:=⟨_,rfl⟩
  rw [←hq]at hnE
  simp only [←hq]at c46
  by_cases g0:q=0
  ·have k2:((q:Int)=0)=True:=eq_true (by omega)
   rw [if_pos (by rw [hnE];exact decide_eq_true g0)]at hst
   simp (disch:=omega) only [List.replicate,edL,k1,i2',eL,Nat.mul_one,go_sem]
   repeat' first
    |((first|refine cA (c46 _) ?_ ?_|refine cG (fun e=>c46 _) ?_ ?_|refine cU (fun _=>c46 _) ?_ ?_);(next=>exact flk);simp (disch:=omega) only [edL,k1,k2,i2',eL,eC,eTk,Nat.mul_one,go_sem])
    |((first|apply qc|apply qb);exact rvk;simp only [go_sem];first|exact VLe.refl _|apply qd|apply qa|apply qe|skip)
    |with_reducible first|refine And.intro ?_ ?_|intro _
   all_goals try exact clz
   have eA:qs L++ [AV.int .i64 (i:Int)]=qs (qS (noE names gs l) (i+1)):=by rw [hst,qT];rfl
   rw [eA]
   refine hK _ _ (i+1,v+1,.mem (qx (some O)+1) 3 [.int .i64 (i:Int)]) ⟨hi,rfl⟩ (by simp only;omega) ?_
   simp only [hst,List.length_append,List.length_cons,List.length_nil]
   refine Wk.temps ?_
   (simp only [List.replicate,go_sem,qj,qh,qg,qi];try (repeat' first|(with_reducible refine And.intro ?_ ?_)|(apply qd;omega)|(apply qa;rfl)|exact VLe.refl _))
  ·have k2:((q:Int)=0)=False:=eq_false (by omega)
   rw [if_neg (by rw [hnE];simpa using g0),List.append_nil]at hst
   simp (disch:=omega) only [List.replicate,edL,k1,i2',eL,go_sem]
   repeat' first
    |((first|refine cA (c46 _) ?_ ?_|refine cG (fun e=>c46 _) ?_ ?_|refine cU (fun _=>c46 _) ?_ ?_);(next=>exact flk);simp (disch:=omega) only [edL,k1,k2,i2',eL,go_sem])
    |((first|apply qc|apply qb);exact rvk;simp only [go_sem];first|exact VLe.refl _|apply qd|apply qa|apply qe|skip)
    |with_reducible first|refine And.intro ?_ ?_|intro _
   all_goals try exact clz
   refine hK _ _ (i+1,v,O) ⟨hi,i2⟩ (by simp only;omega) ?_
   simp only [hst]
   refine Wk.temps ?_
   (simp only [List.replicate,go_sem,qj,qh,qg,qi];try (repeat' first|(with_reducible refine And.intro ?_ ?_)|(apply qd;omega)|(apply qa;rfl)|exact VLe.refl _))
 ·obtain rfl:i=names.length:=by omega
  have k1:((names.length:Int)<names.length)=False:=eq_false (by omega)
  rw [eL]
  simp (disch:=omega) only [List.replicate,k1,eL,go_sem]
  repeat' first
   |((first|apply qc|apply qb);exact rvk;simp only [go_sem];first|exact VLe.refl _|apply qd|apply qa|apply qe|skip)
   |with_reducible first|refine And.intro ?_ ?_|intro _
  all_goals try exact clz
  exact qV ⟨j7 (fun _=>rfl) rfl,VLe.refl _,trivial⟩
end
end RC
end
section
open Go Go.Proofs AF
def qrj:List Nat:= [93,74,79,120,147,148,161,170,63,105,131,64,31,32,57,58,29,30,1000061,1000062,1000063,1000064,1000068,1000069,1000070,1000071]
def qwO:C:=
 ((C.ops [MC 8 (i6 0)]).seq (((C.ops [MV 16 0,MV 17 1,O2 18 (.call 49 true) 16 17,BC 19 .neq 18 (i6 0)]).seq (C.cond (.t 19) ((C.ops [MC 8 (i6 1)]).seq C.ret) C.skip)).seq
 (((C.ops [MV 20 3,O1 21 .len 20,BC 22 .gtr 21 (i6 4096)]).seq (C.cond (.t 22) ((C.ops [MC 8 (i6 4)]).seq C.ret) C.skip)).seq (((C.ops [MC 9 (i6 0)]).seq (C.block 0 (((C.ops [MV
 23 9,MV 24 3,O1 25 .len 24,BI 26 .lss 23 25]).seq (C.cond (.t 26) C.skip (C.exit 0))).seq ((C.block 1 ((C.ops [MV 29 0,MV 30 1,MV 31 2,MV 32 3,MV 33 9,O2 34 (.idxA 6) 32
 33,O1 35 (.load (some 6)) 34,ON 36 (.call 50 true) [.t 29,.t 30,.t 31,.t 35],MV 10 36]).seq ((C.ops [MV 37 10,BC 38 .neq 37 (i6 0)]).seq (C.cond (.t 38) ((C.ops [MV 39 10,
 MV 8 39]).seq C.ret) C.skip)))).seq (C.ops [MV 27 9,BC 28 .add 27 (i6 1),MV 9 28]))).loop)).seq (((C.ops [MC 11 (i6 0)]).seq (C.block 2 (((C.ops [MV 40 11,MV 41 0,O1 42 .len
 41,BI 43 .lss 40 42]).seq (C.cond (.t 43) C.skip (C.exit 2))).seq ((C.block 3 ((C.ops [MV 46 0,MV 47 1,MV 48 3,MV 49 11,ON 50 (.call 47 true) [.t 46,.t 47,.t 48,.t 49],MV
 12 50]).seq ((C.ops [MC 13 (i6 1)]).seq (C.block 4 (((C.ops [MV 51 13,MV 52 12,O1 53 .len 52,BI 54 .lss 51 53]).seq (C.cond (.t 54) C.skip (C.exit 4))).seq ((C.block 5 ((C.draw
 (DT.one ⟨some 57,none,.mv,[.t 3]⟩ (DT.one ⟨some 58,none,.mv,[.t 12]⟩ (DT.one ⟨some 59,none,.mv,[.t 13]⟩ (DT.one ⟨some 60,none,.bin .sub,[.t 59,.c (i6 1)]⟩ (DT.one
 ⟨some 61,none,.idxI 1,[.t 58,.t 60]⟩ (DT.one ⟨some 62,none,.loadI none,[.t 61]⟩ (DT.one ⟨some 63,none,.idxI 6,[.t 57,.t 62]⟩ (DT.one ⟨some 64,none,.loadI (some 6),[.t
 63]⟩ (DT.one ⟨some 65,none,.mv,[.t 3]⟩ (DT.one ⟨some 66,none,.mv,[.t 12]⟩ (DT.one ⟨some 67,none,.mv,[.t 13]⟩ (DT.one ⟨some 68,none,.idxI 1,[.t 66,.t 67]⟩ (DT.one ⟨some
 69,none,.loadI none,[.t 68]⟩ (DT.one ⟨some 70,none,.idxI 6,[.t 65,.t 69]⟩ (DT.one ⟨some 71,none,.loadI (some 6),[.t 70]⟩ (DT.one ⟨some 14,none,.alloc 0 49 [i6 0,i6 0,
 i6 0,.bool false,.nl,.nl],[]⟩ (DT.one ⟨some 15,none,.alloc 1 49 [i6 0,i6 0,i6 0,.bool false,.nl,.nl],[]⟩ (DT.one ⟨none,none,.store 6,[.t 14,.t 64]⟩ (DT.one ⟨none,
 none,.store 6,[.t 15,.t 71]⟩ DT.nil)))))))))))))))))))).seq ((C.ops [O1 72 (.fldA 1) 15,LD 73 72,O1 74 (.fldA 2) 14,LD 75 74,BI 76 .lss 73 75,MV 77 76,P1 78 77 false
 (.fldA 1) 14,P1 79 77 false (.load none) 78,P1 80 77 false (.fldA 1) 15,P1 81 77 false (.load none) 80,P2 82 77 false (.bin .eql) 79 81,MG 83 77 false 82,P1 84 83 true (.fldA
 2) 14,P1 85 83 true (.load none) 84,P1 86 83 true (.fldA 2) 15,P1 87 83 true (.load none) 86,P2 88 83 true (.bin .eql) 85 87,QF 89 77 false 83 88,PT 90 77 89]).seq (C.cond
 (.t 90) ((C.ops [MC 8 (i6 17)]).seq C.ret) C.skip)))).seq (C.ops [MV 55 13,BC 56 .add 55 (i6 1),MV 13 56]))).loop)))).seq (C.ops [MV 44 11,BC 45 .add 44 (i6 1),MV 11
 45]))).loop)).seq ((C.ops [MC 8 (i6 0)]).seq
 C.ret))))))
theorem quF:qJ Tryz.prog 21 91 2 [RV.tmp 8] qwO:=fi Tryz.f21 [14,15] qrj [] (by kernel_rfl) (by kernel_rfl) (by kernel_rfl) (by kernel_rfl)
end
