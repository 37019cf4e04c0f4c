import Derived.Test.YtgoandblgcjleaaGreatDoorK10
import Derived.Test.YtgoandblgcjleaaGreatDoorK13
import Derived.Test.YtgoandblgcjleaaGreatDoorK3
import Derived.Test.YtgoandblgcjleaaGreatDoorK5
import Derived.Test.YtgoandblgcjleaaGreatDoorK8
import Derived.Test.YtgoandblgcjleaaGreatDoorProg
import Derived.Test.YtgoandblgcjleaaGreatDoorK12
import Derived.Test.YtgoandblgcjleaaGreatDoorK7
set_option linter.all false
set_option linter.unusedSimpArgs false
set_option linter.unusedVariables false
set_option linter.unusedSectionVars false
set_option maxHeartbeats 64000000
set_option maxRecDepth 100000
section
open Go Go.Proofs AF HY LN
namespace RC
def gnB(sec:Str)(sig:List Str):Bool:=qY (fun i=>decide (20<(sig.getD i []).length)) sig.length||decide (20<sec.length)
theorem gnP(sec:Str)(sig:List Str)(h:List AObj)(hn:sig.length≤9223372036854775807):ACalls Tryz.prog 150 [.str sec,strs sig] h (.bool (gnB sec sig)) h:=by
 obtain⟨R,hR⟩: ∃R,R=gnB sec sig:=⟨_,rfl⟩
 rw[←hR];unfold gnB at hR;refine acO qw2 ?_;simp (disch:=omega) only[qvy,strs,go_sem];refine qm (T:=fun i:Nat=>qI 21 [(0,.str sec),(1,strs sig),(5,.int .i64 i)]) (H:=fun _=>h) (inv:=fun i=>i≤sig.length∧ ∀j,j<i→(fun i=>decide (20<(sig.getD i []).length)) j=false) (m:=fun i=>sig.length-i) 0 ⟨Nat.zero_le _,fun j hj=>absurd hj (Nat.not_lt_zero j)⟩ (Wk.temps ?_) ?_
 ·(simp only[strs,go_sem,qh,qd,qa,qg];try (repeat' first|(with_reducible apply aiA)|(apply qi;omega)|(apply qe;rfl)|exact qj))
 rintro i ⟨i1,i2⟩ K hK
 by_cases hi:i<sig.length
 ·have k1:((i:Int)<sig.length)=True:=eq_true (by omega)
  by_cases g:20<(sig.getD i []).length
  ·have hV:R=true:=by rw[hR,qv.2 ⟨i,hi,decide_eq_true g⟩];rfl
   obtain⟨s,hs⟩: ∃s,s=sig.getD i []:=⟨_,rfl⟩
   have es:=hs.symm;rw[es]at g;have k2:((20:Int)<s.length)=True:=eq_true (by omega);rw[hV];simp (disch:=omega) only[strs,k1,k2,es,go_sem]
   repeat' first
    |(apply qf;exact rvk;simp only[go_sem];exact qj)
    |with_reducible apply aiA
   all_goals try exact clz
  ·have i3:=ju i2 (decide_eq_false g);obtain⟨s,hs⟩: ∃s,s=sig.getD i []:=⟨_,rfl⟩
   have es:=hs.symm;rw[es]at g;have k2:((20:Int)<s.length)=False:=eq_false (by omega);simp (disch:=omega) only[strs,k1,k2,es,go_sem]
   repeat' first
    |with_reducible apply aiA
   all_goals try exact clz
   refine hK _ _ (i+1) ⟨hi,i3⟩ (by omega) (Wk.temps ?_)
   (simp only[strs,go_sem,qh,qd,qa,qg];try (repeat' first|(with_reducible apply aiA)|(apply qi;omega)|(apply qe;rfl)|exact qj))
 have k1:((i:Int)<sig.length)=False:=eq_false (by omega);rw[qn.2 (fun j hj=>i2 j (by omega)),Bool.false_or]at hR;have e1:decide ((20:Int)<sec.length)=decide (20<sec.length):=decide_eq_decide.2 (by omega);rw[hR,←e1];simp (disch:=omega) only[strs,k1,go_sem]
 repeat' first
  |(apply qf;exact rvk;simp only[go_sem];exact qj)
def qbJ(t:Tk):Bool:=decide (12<t.text.length)||(decide (12<t.norm.length)||(decide (20<t.page.length)||decide (20<t.name.length)))
def qcP(i:Nat)(r:List Tk):Bool:=decide (6<r.length)||((decide (4≤i)&&decide (1<r.length))||qY (fun k=>qbJ (r.getD k default)) r.length)
def prN(L:List (List Tk)):Nat→Nat
 |0=>1
 |i+1=>if i<4 then prN L i*((L.getD i []).length+1) else prN L i
def gtB(L:List (List Tk)):Bool:=qY (fun i=>qcP i (L.getD i [])) L.length||(decide (400<prN L L.length)||((decide (6<L.length)&&decide (L.length≤32))||decide (34<L.length)))
theorem qyC{L:List (List Tk)}: ∀ {n:Nat},(∀i,i<n→(L.getD i []).length≤6)→prN L n≤7^min n 4:=by
 intro n
 induction n with
 |zero=>intro _;exact Nat.le_refl _
 |succ n ih=>
  intro h;have h1:=ih fun i hi=>h i (by omega)
  have h2:=h n (by omega);unfold prN;split
  ·rename_i g;rw[show min n 4=n by omega]at h1;rw[show min (n+1) 4=n+1 by omega,Nat.pow_succ];exact Nat.mul_le_mul h1 (by omega)
  ·rename_i g;rw[show min n 4=4 by omega]at h1;rw[show min (n+1) 4=4 by omega];exact h1
theorem gtP(L:List (List Tk))(h:List AObj)(hn:L.length≤9223372036854775807):ACalls Tryz.prog 149 [qo L] h (.bool (gtB L)) h:=by
 obtain⟨R,hR⟩: ∃R,R=gtB L:=⟨_,rfl⟩
 rw[←hR];unfold gtB at hR;refine acO qw1 ?_;simp (disch:=omega) only[qvx,qo,go_sem];refine qm (T:=fun i:Nat×AObj=>qI 97 [(0,qo L),(3,.int .i64 (prN L i.1:Int)),(4,.int .i64 i.1)]) (H:=fun i=>h++ [i.2]) (inv:=fun i=>i.1≤L.length∧qz [i.2] 0=true∧ ∀j,j<i.1→(fun i=>qcP i (L.getD i [])) j=false) (m:=fun i=>L.length-i.1) (0,.emp 0) ⟨Nat.zero_le _,rfl,fun j hj=>absurd hj (Nat.not_lt_zero j)⟩ (Wk.temps ?_) ?_
 ·(simp only[qo,prN,go_sem,qh,qd,qa,qg];try (repeat' first|(with_reducible apply aiA)|(apply qi;omega)|(apply qe;rfl)|exact qj))
 rintro⟨i,O⟩ ⟨i1,i2,i3⟩ K hK;simp only at i1 i2 i3 hK;have i2': ∀m,qz (O::m) 0=true:=fun _=>i2
 have h6: ∀j,j<i→(L.getD j []).length≤6:=fun j hj=>by
  have:=i3 j hj
  unfold qcP at this;simp only[Bool.or_eq_false_iff,decide_eq_false_iff_not]at this;omega
 have hp:=qyC h6;have hp2:prN L i≤2401:=by
  have:7^min i 4≤7^4:=Nat.pow_le_pow_right (by omega) (Nat.min_le_right _ _)
  have h3:(7:Nat)^4=2401:=rfl;omega
 have hst:prN L (i+1)=if i<4 then prN L i*((L.getD i []).length+1) else prN L i:=rfl
 obtain⟨q,hq⟩: ∃q,q=prN L i:=⟨_,rfl⟩
 have eq:=hq.symm;rw[eq]at hp2 hst
 by_cases hi:i<L.length
 ·have k1:((i:Int)<L.length)=True:=eq_true (by omega);have hit:qcP i (L.getD i [])=true→R=true:=fun hc=>by rw[hR,qv.2 ⟨i,hi,hc⟩];rfl
  have i4:=fun hc=>ju (p:=fun i=>qcP i (L.getD i [])) i3 hc
  obtain⟨r,hr⟩: ∃r,r=L.getD i []:=⟨_,rfl⟩
  have er:=hr.symm;rw[er]at hst hit;simp only[er]at i4;have hB:qcP i r=(decide (6<r.length)||((decide (4≤i)&&decide (1<r.length))||qY (fun k=>qbJ (r.getD k default)) r.length)):=rfl
  by_cases g1:6<r.length
  ·have k2:((6:Int)<r.length)=True:=eq_true (by omega);rw[hit (by rw[hB,decide_eq_true g1];rfl)];simp (disch:=omega) only[qo,jc,k1,k2,er,eq,go_sem]
   repeat' first
    |(apply qb;exact rvk;simp only[go_sem];exact qj)
    |with_reducible first|intro _|apply aiA
   all_goals try exact clz
  have k2:((6:Int)<r.length)=False:=eq_false (by omega);rw[decide_eq_false g1,Bool.false_or]at hB;have hq':q*(r.length+1)≤2401*7:=Nat.mul_le_mul hp2 (by omega);have hmul:(q:Int)*((r.length:Int)+1)=((q*(r.length+1):Nat):Int):=by push_cast;rfl
  have m2:(((q*(r.length+1):Nat):Int)≤9223372036854775807)=True:=eq_true (by omega);have m3:(-9223372036854775808≤((q*(r.length+1):Nat):Int))=True:=eq_true (by omega)
  by_cases gg:4≤i∧1<r.length
  ·have k3:((4:Int)≤i)=True:=eq_true (by omega);have k5:((1:Int)<r.length)=True:=eq_true (by omega);rw[hit (by rw[hB,decide_eq_true gg.1,decide_eq_true gg.2];rfl)];simp (disch:=omega) only[qo,jc,k1,k2,k3,k5,er,eq,go_sem]
   repeat' first
    |(apply qb;exact rvk;simp only[go_sem];exact qj)
    |with_reducible apply aiA
   all_goals try exact clz
  have hB':qcP i r=qY (fun k=>qbJ (r.getD k default)) r.length:=by
   rw[hB]
   have:(decide (4≤i)&&decide (1<r.length))=false:=by
    rw[←Bool.decide_and];exact decide_eq_false gg
   rw[this,Bool.false_or]
  rcases Nat.lt_or_ge i 4 with gi|gi
  ·have k3:((4:Int)≤i)=False:=eq_false (by omega);have k4:((i:Int)<4)=True:=eq_true (by omega);rw[if_pos gi]at hst;simp (disch:=omega) only[qo,jc,k1,k2,k3,k4,er,eq,hmul,go_sem]
   repeat' first
    |(apply qb;exact rvk;simp only[go_sem];apply qe)
    |with_reducible first|intro _|apply aiA
   all_goals try exact clz
   refine qm (T:=fun k:Nat×AObj=>qI 97 [(0,qo L),(3,.int .i64 ((q*(r.length+1):Nat):Int)),(4,.int .i64 i),(5,.int .i64 k.1)]) (H:=fun k=>h++ [k.2]) (inv:=fun k=>k.1≤r.length∧qz [k.2] 0=true∧ ∀j,j<k.1→(fun k=>qbJ (r.getD k default)) j=false) (m:=fun k=>r.length-k.1) (0,O) ⟨Nat.zero_le _,i2,fun j hj=>absurd hj (Nat.not_lt_zero j)⟩ (Wk.temps ?_) ?_
   ·(simp only[qo,go_sem,qh,qd,qa,qg];try (repeat' first|(with_reducible apply aiA)|(apply qi;omega)|(apply qe;rfl)|exact qj))
   rintro⟨k,O'⟩ ⟨u1,u2,u3⟩ K2 hK2;simp only at u1 u2 u3 hK2;have u2': ∀m,qz (O'::m) 0=true:=fun _=>u2
   by_cases hk:k<r.length
   ·have t1:((k:Int)<r.length)=True:=eq_true (by omega);have hbit:qbJ (r.getD k default)=true→R=true:=fun hc=>hit (by rw[hB',qv];exact⟨k,hk,hc⟩)
    have u4:=fun hc=>ju (p:=fun k=>qbJ (r.getD k default)) u3 hc
    obtain⟨t,ht⟩: ∃t,t=r.getD k default:=⟨_,rfl⟩
    have et:=ht.symm;rw[et]at hbit;simp only[et]at u4;have hT:qbJ t=(decide (12<t.text.length)||(decide (12<t.norm.length)||(decide (20<t.page.length)||decide (20<t.name.length)))):=rfl
    by_cases gA:12<t.text.length
    ·have qA:((12:Int)<t.text.length)=True:=eq_true (by omega);rw[hbit (by rw[hT,decide_eq_true gA];simp)];simp (disch:=omega) only[qo,jc,tkC,k1,t1,er,et,u2',qA,go_sem]
     repeat' first
      |(apply qb;exact rvk;simp only[go_sem];exact qj)
      |with_reducible apply aiA
     all_goals try exact clz
    have qA:((12:Int)<t.text.length)=False:=eq_false (by omega)
    by_cases gB:12<t.norm.length
    ·have qB:((12:Int)<t.norm.length)=True:=eq_true (by omega);rw[hbit (by rw[hT,decide_eq_true gB];simp)];simp (disch:=omega) only[qo,jc,tkC,k1,t1,er,et,u2',qA,qB,go_sem]
     repeat' first
      |(apply qb;exact rvk;simp only[go_sem];exact qj)
      |with_reducible apply aiA
     all_goals try exact clz
    have qB:((12:Int)<t.norm.length)=False:=eq_false (by omega)
    by_cases gC:20<t.page.length
    ·have qC:((20:Int)<t.page.length)=True:=eq_true (by omega);rw[hbit (by rw[hT,decide_eq_true gC];simp)];simp (disch:=omega) only[qo,jc,tkC,k1,t1,er,et,u2',qA,qB,qC,go_sem]
     repeat' first
      |(apply qb;exact rvk;simp only[go_sem];exact qj)
      |with_reducible apply aiA
     all_goals try exact clz
    have qC:((20:Int)<t.page.length)=False:=eq_false (by omega)
    by_cases gD:20<t.name.length
    ·have qD:((20:Int)<t.name.length)=True:=eq_true (by omega);rw[hbit (by rw[hT,decide_eq_true gD];simp)];simp (disch:=omega) only[qo,jc,tkC,k1,t1,er,et,u2',qA,qB,qC,qD,go_sem]
     repeat' first
      |(apply qb;exact rvk;simp only[go_sem];exact qj)
      |with_reducible apply aiA
     all_goals try exact clz
    have qD:((20:Int)<t.name.length)=False:=eq_false (by omega);simp (disch:=omega) only[qo,jc,tkC,k1,t1,er,et,u2',qA,qB,qC,qD,go_sem]
    repeat' first
     |with_reducible apply aiA
    all_goals try exact clz
    refine hK2 _ _ (k+1,_) ⟨hk,rfl,u4 (by rw[hT,decide_eq_false gA,decide_eq_false gB,decide_eq_false gC,decide_eq_false gD];rfl)⟩ (by simp only;omega) (Wk.temps ?_)
    (simp only[qo,jc,tkC,go_sem,qh,qd,qa,qg];try (repeat' first|(with_reducible apply aiA)|(apply qi;omega)|(apply qe;rfl)|exact qj))
   ·have t1:((k:Int)<r.length)=False:=eq_false (by omega);have hz:qcP i r=false:=by rw[hB',qn];exact fun j hj=>u3 j (by omega)
    simp (disch:=omega) only[qo,jc,t1,er,go_sem]
    repeat' first
     |with_reducible apply aiA
    all_goals try exact clz
    refine hK _ _ (i+1,O') ⟨hi,u2,i4 hz⟩ (by simp only;omega) ?_;simp only[hst];refine Wk.temps ?_
    (simp only[qo,go_sem,qh,qd,qa,qg];try (repeat' first|(with_reducible apply aiA)|(apply qi;omega)|(apply qe;rfl)|exact qj))
  ·have k3:((4:Int)≤i)=True:=eq_true (by omega);have k4:((i:Int)<4)=False:=eq_false (by omega);have k5:((1:Int)<r.length)=False:=eq_false (by omega);rw[if_neg (by omega)]at hst;simp (disch:=omega) only[qo,jc,k1,k2,k3,k4,k5,er,eq,hmul,go_sem]
   repeat' first
    |with_reducible apply aiA
   all_goals try exact clz
   refine qm (T:=fun k:Nat×AObj=>qI 97 [(0,qo L),(3,.int .i64 (q:Int)),(4,.int .i64 i),(5,.int .i64 k.1)]) (H:=fun k=>h++ [k.2]) (inv:=fun k=>k.1≤r.length∧qz [k.2] 0=true∧ ∀j,j<k.1→(fun k=>qbJ (r.getD k default)) j=false) (m:=fun k=>r.length-k.1) (0,O) ⟨Nat.zero_le _,i2,fun j hj=>absurd hj (Nat.not_lt_zero j)⟩ (Wk.temps ?_) ?_
   ·(simp only[qo,go_sem,qh,qd,qa,qg];try (repeat' first|(with_reducible apply aiA)|(apply qi;omega)|(apply qe;rfl)|exact qj))
   rintro⟨k,O'⟩ ⟨u1,u2,u3⟩ K2 hK2;simp only at u1 u2 u3 hK2;have u2': ∀m,qz (O'::m) 0=true:=fun _=>u2
   by_cases hk:k<r.length
   ·have t1:((k:Int)<r.length)=True:=eq_true (by omega);have hbit:qbJ (r.getD k default)=true→R=true:=fun hc=>hit (by rw[hB',qv];exact⟨k,hk,hc⟩)
    have u4:=fun hc=>ju (p:=fun k=>qbJ (r.getD k default)) u3 hc
    obtain⟨t,ht⟩: ∃t,t=r.getD k default:=⟨_,rfl⟩
    have et:=ht.symm;rw[et]at hbit;simp only[et]at u4;have hT:qbJ t=(decide (12<t.text.length)||(decide (12<t.norm.length)||(decide (20<t.page.length)||decide (20<t.name.length)))):=rfl
    by_cases gA:12<t.text.length
    ·have qA:((12:Int)<t.text.length)=True:=eq_true (by omega);rw[hbit (by rw[hT,decide_eq_true gA];simp)];simp (disch:=omega) only[qo,jc,tkC,k1,t1,er,et,u2',qA,go_sem]
     repeat' first
      |(apply qb;exact rvk;simp only[go_sem];exact qj)
      |with_reducible apply aiA
     all_goals try exact clz
    have qA:((12:Int)<t.text.length)=False:=eq_false (by omega)
    by_cases gB:12<t.norm.length
    ·have qB:((12:Int)<t.norm.length)=True:=eq_true (by omega);rw[hbit (by rw[hT,decide_eq_true gB];simp)];simp (disch:=omega) only[qo,jc,tkC,k1,t1,er,et,u2',qA,qB,go_sem]
     repeat' first
      |(apply qb;exact rvk;simp only[go_sem];exact qj)
      |with_reducible apply aiA
     all_goals try exact clz
    have qB:((12:Int)<t.norm.length)=False:=eq_false (by omega)
    by_cases gC:20<t.page.length
    ·have qC:((20:Int)<t.page.length)=True:=eq_true (by omega);rw[hbit (by rw[hT,decide_eq_true gC];simp)];simp (disch:=omega) only[qo,jc,tkC,k1,t1,er,et,u2',qA,qB,qC,go_sem]
     repeat' first
      |(apply qb;exact rvk;simp only[go_sem];exact qj)
      |with_reducible apply aiA
     all_goals try exact clz
    have qC:((20:Int)<t.page.length)=False:=eq_false (by omega)
    by_cases gD:20<t.name.length
    ·have qD:((20:Int)<t.name.length)=True:=eq_true (by omega);rw[hbit (by rw[hT,decide_eq_true gD];simp)];simp (disch:=omega) only[qo,jc,tkC,k1,t1,er,et,u2',qA,qB,qC,qD,go_sem]
     repeat' first
      |(apply qb;exact rvk;simp only[go_sem];exact qj)
      |with_reducible apply aiA
     all_goals try exact clz
    have qD:((20:Int)<t.name.length)=False:=eq_false (by omega);simp (disch:=omega) only[qo,jc,tkC,k1,t1,er,et,u2',qA,qB,qC,qD,go_sem]
    repeat' first
     |with_reducible apply aiA
    all_goals try exact clz
    refine hK2 _ _ (k+1,_) ⟨hk,rfl,u4 (by rw[hT,decide_eq_false gA,decide_eq_false gB,decide_eq_false gC,decide_eq_false gD];rfl)⟩ (by simp only;omega) (Wk.temps ?_)
    (simp only[qo,jc,tkC,go_sem,qh,qd,qa,qg];try (repeat' first|(with_reducible apply aiA)|(apply qi;omega)|(apply qe;rfl)|exact qj))
   ·have t1:((k:Int)<r.length)=False:=eq_false (by omega);have hz:qcP i r=false:=by rw[hB',qn];exact fun j hj=>u3 j (by omega)
    simp (disch:=omega) only[qo,jc,t1,er,go_sem]
    repeat' first
     |with_reducible apply aiA
    all_goals try exact clz
    refine hK _ _ (i+1,O') ⟨hi,u2,i4 hz⟩ (by simp only;omega) ?_;simp only[hst];refine Wk.temps ?_
    (simp only[qo,go_sem,qh,qd,qa,qg];try (repeat' first|(with_reducible apply aiA)|(apply qi;omega)|(apply qe;rfl)|exact qj))
 have k1:((i:Int)<L.length)=False:=eq_false (by omega);obtain rfl:i=L.length:=by omega
 rw[qn.2 (fun j hj=>i3 j hj),Bool.false_or,←hq]at hR
 by_cases g1:400<q
 ·have k2:((400:Int)<q)=True:=eq_true (by omega);rw[hR,decide_eq_true g1,Bool.true_or];simp (disch:=omega) only[qo,k1,k2,eq,go_sem]
  repeat' first
   |(apply qb;exact rvk;simp only[go_sem];exact qj)
 have k2:((400:Int)<q)=False:=eq_false (by omega);rw[decide_eq_false g1,Bool.false_or]at hR
 by_cases g2:6<L.length
 ·have k3:((6:Int)<L.length)=True:=eq_true (by omega)
  by_cases g3:L.length≤32
  ·have k4:((L.length:Int)≤32)=True:=eq_true (by omega);rw[hR,decide_eq_true g2,decide_eq_true g3];simp (disch:=omega) only[qo,k1,k2,k3,k4,eq,go_sem]
   repeat' first
    |(apply qb;exact rvk;simp only[go_sem];exact qj)
  have k4:((L.length:Int)≤32)=False:=eq_false (by omega);have e1:decide ((34:Int)<L.length)=decide (34<L.length):=decide_eq_decide.2 (by omega);rw[hR,decide_eq_true g2,decide_eq_false g3,←e1];simp (disch:=omega) only[qo,k1,k2,k3,k4,eq,go_sem]
  repeat' first
   |(apply qb;exact rvk;simp only[go_sem];exact qj)
 have k3:((6:Int)<L.length)=False:=eq_false (by omega);have e1:decide ((34:Int)<L.length)=decide (34<L.length):=decide_eq_decide.2 (by omega);rw[hR,decide_eq_false g2,←e1];simp (disch:=omega) only[qo,k1,k2,k3,eq,go_sem]
 repeat' first
  |(apply qb;exact rvk;simp only[go_sem];exact qj)
structure CoB (x:Co):Prop where
 sg:x.sig.length≤9223372036854775807
 tk:x.tok.length≤9223372036854775807
 cl:x.col.length≤9223372036854775807
def qtm(x:Co):Bool:=qY (fun i=>decide (36<(x.col.getD i []).length)) x.col.length||(gtB x.tok||(decide (24<x.col.length)||(decide (36<x.sig.length)||gnB x.sec x.sig)))
theorem qCT(x:Co)(h:List AObj)(hb:CoB x):ACalls Tryz.prog 77 [.agg (coC x)] h (.bool (qtm x)) h:=by
 have c1:=fun h=>gtP x.tok h hb.tk
 have c2:=fun h=>gnP x.sec x.sig h hb.sg
 have hc:=hb.cl;obtain⟨R,hR⟩: ∃R,R=qtm x:=⟨_,rfl⟩
 rw[←hR];unfold qtm at hR;unfold qo at c1;unfold strs at c2;refine acO qAI ?_;simp (disch:=omega) only[qBY,coC,qr,go_sem];refine qm (T:=fun i:Nat=>qI 40 [(1,.op h.length 1 0),(3,.int .i64 i)]) (H:=fun _=>h++ [.mem 1 26 (coC x)]) (inv:=fun i=>i≤x.col.length∧ ∀j,j<i→(fun i=>decide (36<(x.col.getD i []).length)) j=false) (m:=fun i=>x.col.length-i) 0 ⟨Nat.zero_le _,fun j hj=>absurd hj (Nat.not_lt_zero j)⟩ (Wk.temps ?_) ?_
 ·(simp only[go_sem,qh,qd,qa,qg];try (repeat' first|(with_reducible apply aiA)|(apply qi;omega)|(apply qe;rfl)|exact qj))
 rintro i ⟨i1,i2⟩ K hK
 by_cases hi:i<x.col.length
 ·have k1:((i:Int)<x.col.length)=True:=eq_true (by omega)
  by_cases g:36<(x.col.getD i []).length
  ·have hV:R=true:=by rw[hR,qv.2 ⟨i,hi,decide_eq_true g⟩];rfl
   obtain⟨s,hs⟩: ∃s,s=x.col.getD i []:=⟨_,rfl⟩
   have es:=hs.symm;rw[es]at g;have k2:((36:Int)<s.length)=True:=eq_true (by omega);rw[hV];simp (disch:=omega) only[coC,qr,ql,k1,k2,es,go_sem]
   repeat' first
    |(apply qb;exact rvk;simp only[go_sem];exact qj)
    |with_reducible apply aiA
   all_goals try exact clz
  ·have i3:=ju i2 (decide_eq_false g);obtain⟨s,hs⟩: ∃s,s=x.col.getD i []:=⟨_,rfl⟩
   have es:=hs.symm;rw[es]at g;have k2:((36:Int)<s.length)=False:=eq_false (by omega);simp (disch:=omega) only[coC,qr,ql,k1,k2,es,go_sem]
   repeat' first
    |with_reducible apply aiA
   all_goals try exact clz
   refine hK _ _ (i+1) ⟨hi,i3⟩ (by omega) (Wk.temps ?_)
   (simp only[go_sem,qh,qd,qa,qg];try (repeat' first|(with_reducible apply aiA)|(apply qi;omega)|(apply qe;rfl)|exact qj))
 have k1:((i:Int)<x.col.length)=False:=eq_false (by omega);rw[qn.2 (fun j hj=>i2 j (by omega)),Bool.false_or]at hR;cases gA:gtB x.tok with
 |true=>
  rw[gA]at hR c1;rw[hR,Bool.true_or];simp (disch:=omega) only[coC,qr,k1,qo,go_sem]
  repeat' first
   |(refine qk ( .bool false) ?_;simp (disch:=omega) only[go_sem])
   |(refine cA (c1 _) ?_ ?_;exact flk;simp (disch:=omega) only[go_sem])
   |(apply qb;exact rvk;simp only[go_sem];exact qj)
   |with_reducible apply aiA
  all_goals try exact clz
 |false=>
 rw[gA]at hR c1;rw[Bool.false_or]at hR
 by_cases g2:24<x.col.length
 ·have k2:((24:Int)<x.col.length)=True:=eq_true (by omega);rw[hR,decide_eq_true g2,Bool.true_or];simp (disch:=omega) only[coC,qr,k1,qo,go_sem]
  repeat' first
   |(refine qk ( .bool false) ?_;simp (disch:=omega) only[go_sem])
   |(refine cA (c1 _) ?_ ?_;exact flk;simp (disch:=omega) only[k2,go_sem])
   |(apply qb;exact rvk;simp only[go_sem];exact qj)
   |with_reducible apply aiA
  all_goals try exact clz
 have k2:((24:Int)<x.col.length)=False:=eq_false (by omega);rw[decide_eq_false g2,Bool.false_or]at hR
 by_cases g3:36<x.sig.length
 ·have k3:((36:Int)<x.sig.length)=True:=eq_true (by omega);rw[hR,decide_eq_true g3,Bool.true_or];simp (disch:=omega) only[coC,qr,k1,qo,strs,go_sem]
  repeat' first
   |(refine qk ( .bool false) ?_;simp (disch:=omega) only[go_sem])
   |(refine cA (c1 _) ?_ ?_;exact flk;simp (disch:=omega) only[k2,k3,go_sem])
   |(apply qb;exact rvk;simp only[go_sem];exact qj)
   |with_reducible apply aiA
  all_goals try exact clz
 have k3:((36:Int)<x.sig.length)=False:=eq_false (by omega);rw[decide_eq_false g3,Bool.false_or]at hR;rw[hR];simp (disch:=omega) only[coC,qr,k1,qo,strs,go_sem]
 repeat' first
  |((first|refine cA (c1 _) ?_ ?_|refine cG (fun e=>c2 _) ?_ ?_);exact flk;simp (disch:=omega) only[k2,k3,go_sem])
  |(apply qb;exact rvk;simp only[go_sem];exact qj)
  |with_reducible apply aiA
 all_goals try exact clz
def guR(u:Un)(k:Nat):Bool:=decide (8<(u.rds.getD k default).src.length)||gwB (u.rds.getD k default).words 8
def guB(u:Un):Bool:=decide (6<u.rds.length)||qY (guR u) u.rds.length
def qtn(l:List Un):Bool:=qY (fun i=>guB (l.getD i default)) l.length||decide (12<l.length)
structure UnB (l:List Un):Prop where
 n:l.length≤9223372036854775807
 rd: ∀i,(l.getD i default).rds.length≤9223372036854775807
 wd: ∀i j,((l.getD i default).rds.getD j default).words.length≤9223372036854775807
theorem qCU(l:List Un)(h:List AObj)(hb:UnB l):ACalls Tryz.prog 78 [qy l] h (.bool (qtn l)) h:=by
 have hn:=hb.n;obtain⟨R,hR⟩: ∃R,R=qtn l:=⟨_,rfl⟩
 rw[←hR];unfold qtn at hR;refine acO qAJ ?_;simp (disch:=omega) only[qBZ,qy,go_sem];refine qm (T:=fun i:Nat=>qI 54 [(0,qy l),(3,.int .i64 i)]) (H:=fun _=>h) (inv:=fun i=>i≤l.length∧ ∀j,j<i→(fun i=>guB (l.getD i default)) j=false) (m:=fun i=>l.length-i) 0 ⟨Nat.zero_le _,fun j hj=>absurd hj (Nat.not_lt_zero j)⟩ (Wk.temps ?_) ?_
 ·(simp only[qy,go_sem,qh,qd,qa,qg];try (repeat' first|(with_reducible apply aiA)|(apply qi;omega)|(apply qe;rfl)|exact qj))
 rintro i ⟨i1,i2⟩ K hK
 by_cases hi:i<l.length
 ·have k1:((i:Int)<l.length)=True:=eq_true (by omega);have hit:guB (l.getD i default)=true→R=true:=fun hc=>by rw[hR,qv.2 ⟨i,hi,hc⟩];rfl
  have i3:=fun hc=>ju (p:=fun i=>guB (l.getD i default)) i2 hc
  have hrd:=hb.rd i;have hwd:=hb.wd i;obtain⟨u,hu⟩: ∃u,u=l.getD i default:=⟨_,rfl⟩
  have eu:=hu.symm;rw[eu]at hit hrd;simp only[eu]at i3 hwd;have hB:guB u=(decide (6<u.rds.length)||qY (guR u) u.rds.length):=rfl
  by_cases g1:6<u.rds.length
  ·have k2:((6:Int)<u.rds.length)=True:=eq_true (by omega);rw[hit (by rw[hB,decide_eq_true g1];rfl)];simp (disch:=omega) only[qy,unC,zx,k1,k2,eu,go_sem]
   repeat' first
    |(apply qf;exact rvk;simp only[go_sem];exact qj)
    |with_reducible apply aiA
   all_goals try exact clz
  have k2:((6:Int)<u.rds.length)=False:=eq_false (by omega);rw[decide_eq_false g1,Bool.false_or]at hB;simp (disch:=omega) only[qy,unC,zx,k1,k2,eu,go_sem]
  repeat' first
   |with_reducible apply aiA
  all_goals try exact clz
  refine qm (T:=fun k:Nat=>qI 54 [(0,qy l),(3,.int .i64 i),(4,.int .i64 k)]) (H:=fun _=>h) (inv:=fun k=>k≤u.rds.length∧ ∀j,j<k→guR u j=false) (m:=fun k=>u.rds.length-k) 0 ⟨Nat.zero_le _,fun j hj=>absurd hj (Nat.not_lt_zero j)⟩ (Wk.temps ?_) ?_
  ·(simp only[qy,go_sem,qh,qd,qa,qg];try (repeat' first|(with_reducible apply aiA)|(apply qi;omega)|(apply qe;rfl)|exact qj))
  rintro k ⟨u1,u2⟩ K2 hK2
  by_cases hk:k<u.rds.length
  ·have t1:((k:Int)<u.rds.length)=True:=eq_true (by omega);have hkit:guR u k=true→R=true:=fun hc=>hit (by rw[hB,qv];exact⟨k,hk,hc⟩)
   have u3:=fun hc=>ju (p:=guR u) u2 hc
   have hG:guR u k=(decide (8<(u.rds.getD k default).src.length)||gwB (u.rds.getD k default).words 8):=rfl;have c1:=fun h=>gwP (u.rds.getD k default).words 8 h (hwd k)
   obtain⟨r,hr⟩: ∃r,r=u.rds.getD k default:=⟨_,rfl⟩
   have er:=hr.symm;simp only[er]at hG c1;unfold strs at c1;have z8:((8:Nat):Int)=8:=rfl;simp only[z8]at c1
   by_cases g2:8<r.src.length
   ·have t2:((8:Int)<r.src.length)=True:=eq_true (by omega);rw[hkit (by rw[hG,decide_eq_true g2];rfl)];simp (disch:=omega) only[qy,unC,zx,rdC,ql,t1,eu,er,k1,t2,go_sem]
    repeat' first
     |(refine qk ( .bool false) ?_;simp (disch:=omega) only[go_sem])
     |(apply qf;exact rvk;simp only[go_sem];exact qj)
     |with_reducible apply aiA
    all_goals try exact clz
   have t2:((8:Int)<r.src.length)=False:=eq_false (by omega);rw[decide_eq_false g2,Bool.false_or]at hG;cases g3:gwB r.words 8 with
   |true=>
    rw[g3]at hG c1;rw[hkit hG];simp (disch:=omega) only[qy,unC,zx,rdC,ql,t1,eu,er,strs,k1,t2,go_sem]
    repeat' first
     |(refine cG (fun e=>c1 _) ?_ ?_;exact flk;simp (disch:=omega) only[go_sem])
     |(apply qf;exact rvk;simp only[go_sem];exact qj)
     |with_reducible apply aiA
    all_goals try exact clz
   |false=>
    rw[g3]at hG c1;simp (disch:=omega) only[qy,unC,zx,rdC,ql,t1,eu,er,strs,k1,t2,go_sem]
    repeat' first
     |(refine cG (fun e=>c1 _) ?_ ?_;exact flk;simp (disch:=omega) only[go_sem])
     |with_reducible apply aiA
    all_goals try exact clz
    refine hK2 _ _ (k+1) ⟨hk,u3 hG⟩ (by omega) (Wk.temps ?_)
    (simp only[qy,go_sem,qh,qd,qa,qg];try (repeat' first|(with_reducible apply aiA)|(apply qi;omega)|(apply qe;rfl)|exact qj))
  ·have t1:((k:Int)<u.rds.length)=False:=eq_false (by omega);have hz:guB u=false:=by rw[hB,qn];exact fun j hj=>u2 j (by omega)
   simp (disch:=omega) only[qy,unC,zx,k1,t1,eu,go_sem]
   repeat' first
    |with_reducible apply aiA
   all_goals try exact clz
   refine hK _ _ (i+1) ⟨hi,i3 hz⟩ (by omega) (Wk.temps ?_)
   (simp only[qy,go_sem,qh,qd,qa,qg];try (repeat' first|(with_reducible apply aiA)|(apply qi;omega)|(apply qe;rfl)|exact qj))
 have k1:((i:Int)<l.length)=False:=eq_false (by omega);rw[qn.2 (fun j hj=>i2 j (by omega)),Bool.false_or]at hR;have e1:decide ((12:Int)<l.length)=decide (12<l.length):=decide_eq_decide.2 (by omega);rw[hR,←e1];simp (disch:=omega) only[qy,k1,go_sem]
 repeat' first
  |(apply qf;exact rvk;simp only[go_sem];exact qj)
end RC
end
section
open Go Go.Proofs AF
def qaS:List Nat:= []
def qiY:C:=
 ((C.ops [O1 1 (.box 0 47) 0,MC 2 (.bool false)]).seq ((C.ops [O1 3 (.fldA 0) 1,O1 4 (.load (some 4)) 3,O1 5 (.call 77 true) 4,MV 6 5,P1 7 6 false (.fldA 4) 1,P1 8 6 false
 (.load none) 7,P1 9 6 false (.call 78 true) 8,PT 10 6 9,MV 11 10,P1 12 11 false (.fldA 0) 1,P1 13 11 false (.fldA 1) 12,P1 14 11 false (.load none) 13,P1 15 11 false (.fldA
 7) 1,P1 16 11 false (.load none) 15,P2 17 11 false (.call 69 true) 14 16,PT 18 11 17,MV 19 18,P1 20 19 false (.fldA 7) 1,P1 21 19 false (.load none) 20,P1 22 19 false .len
 21,PC 23 19 false (.bin .gtr) 22 (i6 18),PT 24 19 23,MV 25 24,P1 26 25 false (.fldA 5) 1,P1 27 25 false (.load none) 26,P1 28 25 false .len 27,PC 29 25 false (.bin .gtr) 28
 (i6 12),PT 30 25 29,MV 31 30,P1 32 31 false (.fldA 5) 1,P1 33 31 false (.load none) 32,PC 34 31 false (.call 90 true) 33 (.fn (Fn.func 91) [] []),PT 35 31 34,MV 36 35,P1 37
 36 false (.fldA 6) 1,P1 38 36 false (.load none) 37,P1 39 36 false .len 38,PC 40 36 false (.bin .gtr) 39 (i6 14),PT 41 36 40,MV 42 41,P1 43 42 false (.fldA 6) 1,P1 44 42
 false (.load none) 43,PC 45 42 false (.call 92 true) 44 (.fn (Fn.func 93) [] []),PT 46 42 45,MV 47 46,P1 48 47 false (.fldA 8) 1,P1 49 47 false (.load none) 48,P1 50 47 false
 .len 49,PC 51 47 false (.bin .gtr) 50 (i6 18),PT 52 47 51,MV 53 52,P1 54 53 false (.fldA 8) 1,P1 55 53 false (.load none) 54,PC 56 53 false (.call 94 true) 55 (.fn (Fn.func
 95) [] []),PT 57 53 56,MV 58 57,P1 59 58 false (.fldA 9) 1,P1 60 58 false (.load none) 59,P1 61 58 false .len 60,PC 62 58 false (.bin .gtr) 61 (i6 20),PT 63 58 62,MV 2
 63]).seq
 C.ret))
theorem qcw:qG Tryz.prog 23 64 1 [RV.tmp 2] qiY:=fi Tryz.f23 [1] qaS []
def qBR:C:=
 ((C.ops [O1 1 (.box 0 47) 0,ON 2 (.nilo 1 6 58) [],MC 3 (i6 0)]).seq ((C.ops [O1 4 (.fldA 0) 1,O1 5 (.load (some 4)) 4,O1 6 (.fldA 4) 1,LD 7 6,O1 8 (.fldA 5) 1,LD 9 8,O1 10
 (.fldA 6) 1,LD 11 10,O1 12 (.fldA 7) 1,LD 13 12,O1 14 (.fldA 8) 1,LD 15 14,O1 16 (.fldA 9) 1,LD 17 16,ON 18 (.call 96 true) [.t 5,.t 7,.t 9,.t 11,.t 13,.t 15,.t 17],
 O1 19 (.ext 0) 18,O1 20 (.ext 1) 18,MV 2 19,MV 3 20]).seq
 C.ret))
theorem qAv:qG Tryz.prog 25 21 2 [RV.tmp 2,RV.tmp 3] qBR:=fi Tryz.f25 [1,2] qaS []
def qB3:C:=
 ((C.ops [⟨some 0,none,.alloc 0 26 [.str [],.nl,.nl,.nl],[]⟩]).seq ((C.ops [⟨some 1,none,.bslc 1 1 2 9 [.str []] [(0,1),(1,1)],[.c (.str [65]),.c (.str [66])]⟩,ON 2
 (.call 163 true) [.c (.str [100,101,117,115])],ON 3 (.call 163 true) [.c (.str [101,115,116])],ON 4 (.call 163 true) [.c (.str [98,111,110,117,115])],⟨some 5,none,
 .bslc 2 6 3 124 [.str [],.str [],.str [],i6 0,i6 0,.str []] [(0,6),(6,6),(12,6)],[.t 2,.t 3,.t 4]⟩,ON 6 (.call 163 true) [.c (.str [100,101,117,115])],ON 7 (.call
 163 true) [.c (.str [98,111,110,117,115])],⟨some 8,none,.bslc 3 6 2 124 [.str [],.str [],.str [],i6 0,i6 0,.str []] [(0,6),(6,6)],[.t 6,.t 7]⟩,⟨some 9,none,
 .bslc 4 1 2 125 [.nl] [(0,1),(1,1)],[.t 5,.t 8]⟩,⟨some 10,none,.bslc 5 1 2 3 [i6 0] [(0,1),(1,1)],[.c (i6 0),.c (i6 0)]⟩,⟨some 11,none,.bslc 6 1 2 3 [i6 0] [(0,1),
 (1,1)],[.c (i6 1),.c (i6 (-1))]⟩,⟨some 12,none,.bslc 7 1 2 3 [i6 0] [(0,1),(1,1)],[.c (i6 2),.c (i6 1)]⟩,⟨some 13,none,.bslc 8 1 3 62 [.nl] [(0,1),(1,1),(2,1)],
 [.t 10,.t 11,.t 12]⟩,⟨some 14,none,.build [.str [],.nl,.nl,.nl] [(0,1),(1,1),(2,1),(3,1)],[.c (.str [97]),.t 1,.t 9,.t 13]⟩,ST 4 0 14]).seq
 C.ret))
theorem qAP:qG Tryz.prog 97 15 9 [RV.cell 0 (some 4)] qB3:=fi Tryz.f97 [0,1,5,8,9,10,11,12,13] qaS []
def qvC:C:=
 ((C.ops [⟨some 2,none,.alloc 0 124 [.str [],.str [],.str [],i6 0,i6 0,.str []],[]⟩]).seq ((C.ops [MV 3 0,MV 4 0,⟨some 5,none,.build [.str [],.str [],.str [],i6 0,i6
 0,.str []] [(0,1),(1,1)],[.t 3,.t 4]⟩,ST 6 2 5]).seq
 C.ret))
theorem qw7:qG Tryz.prog 163 6 1 [RV.cell 2 (some 6)] qvC:=fi Tryz.f163 [2] qaS []
def qB0:C:=
 ((C.ops [MC 2 (.bool false)]).seq ((C.ops [MV 3 0,OC 4 (.call 70 true) 3 (i6 8),MV 2 4]).seq
 C.ret))
theorem qAL:qG Tryz.prog 91 5 0 [RV.tmp 2] qB0:=fi Tryz.f91 [] qaS []
def qB1:C:=
 ((C.ops [O1 1 (.box 0 64) 0,MC 2 (.bool false)]).seq ((C.ops [O1 3 (.fldA 0) 1,LD 4 3,O1 5 .slen 4,BC 6 .gtr 5 (i6 30),MV 2 6]).seq
 C.ret))
theorem qAM:qG Tryz.prog 93 7 1 [RV.tmp 2] qB1:=fi Tryz.f93 [1] qaS []
def qB2:C:=
 ((C.ops [MC 2 (.bool false)]).seq ((C.ops [MV 3 0,O1 4 .slen 3,BC 5 .gtr 4 (i6 40),MV 2 5]).seq
 C.ret))
theorem qAO:qG Tryz.prog 95 6 0 [RV.tmp 2] qB2:=fi Tryz.f95 [] qaS []
end
section
open Go Go.Proofs AF HY LN
namespace RC
def jm(L:List (List Str)):AV:= .sl L.length fun i=> [strs (L.getD i [])]
def jD(L:List Bool):AV:= .sl L.length fun i=> [.bool (L.getD i false)]
theorem flag_clsV(L:List (List Str)):(jm L).flag=true:=rfl
theorem strip_clsV(L:List (List Str)):(jm L).strip=jm L:=rfl
theorem flag_bolV(L:List Bool):(jD L).flag=true:=rfl
theorem strip_bolV(L:List Bool):(jD L).strip=jD L:=rfl
section
variable {fz : Nat → Bool} {h : List AObj} {n : Nat}
theorem rei_clsV(L:List (List Str)):rei fz h (n+1) (jm L)=jm L:=rfl
theorem rei_bolV(L:List Bool):rei fz h (n+1) (jD L)=jD L:=rfl
theorem frz_clsV(L:List (List Str)):frz fz h (n+1) (jm L)=jm L:=rfl
theorem frz_bolV(L:List Bool):frz fz h (n+1) (jD L)=jD L:=rfl
end
attribute [go_sem] flag_clsV strip_clsV flag_bolV strip_bolV rei_clsV rei_bolV frz_clsV frz_bolV
def apC(a:Ap):List AV:= [.str a.x.sec,strs a.x.sig,qo a.x.tok,qr a.x.col,qy a.l,jm a.cls,qU a.b,qF a.gs,strs a.lay,jD a.pos]
structure ApB (a:Ap):Prop where
 x:CoB a.x
 l:UnB a.l
 c:a.cls.length≤9223372036854775807
 cw: ∀i,(a.cls.getD i []).length≤9223372036854775807
 b:a.b.length≤9223372036854775807
 g:a.gs.length≤9223372036854775807
 y:a.lay.length≤9223372036854775807
 p:a.pos.length≤9223372036854775807
theorem gr1(w:List Str)(h:List AObj)(hn:w.length≤9223372036854775807):ACalls Tryz.prog 91 [strs w] h (.bool (gwB w 8)) h:=by
 have c1:=fun h=>gwP w 8 h hn
 have z8:((8:Nat):Int)=8:=rfl;simp only[z8]at c1;refine acO qAL ?_;simp (disch:=omega) only[qB0,go_sem]
 repeat' first
  |(refine cA (c1 _) ?_ ?_;exact flk;simp (disch:=omega) only[go_sem])
  |(apply qf;exact rvk;simp only[go_sem];exact qj)
theorem gr2(w:Wd)(h:List AObj):ACalls Tryz.prog 93 [.agg (wdC w)] h (.bool (decide (30<w.text.length))) h:=by
 have e1:decide ((30:Int)<w.text.length)=decide (30<w.text.length):=decide_eq_decide.2 (by omega);rw[←e1];refine acO qAM ?_;simp (disch:=omega) only[qB1,wdC,go_sem]
 repeat' first
  |(apply qb;exact rvk;simp only[go_sem];exact qj)
theorem gr3(s:Str)(h:List AObj):ACalls Tryz.prog 95 [.str s] h (.bool (decide (40<s.length))) h:=by
 have e1:decide ((40:Int)<s.length)=decide (40<s.length):=decide_eq_decide.2 (by omega);rw[←e1];refine acO qAO ?_;simp (disch:=omega) only[qB2,go_sem]
 repeat' first
  |(apply qf;exact rvk;simp only[go_sem];exact qj)
theorem gc1(L:List (List Str))(h:List AObj)(hn:L.length≤9223372036854775807)(hw: ∀i,(L.getD i []).length≤9223372036854775807):
  ACalls Tryz.prog 90 [jm L,.fn (.func 91) [] []] h (.bool (qY (fun j=>gwB (L.getD j []) 8) L.length)) h:=by
 unfold jm;refine qnC qAK ⟨rfl,rfl⟩ ⟨rfl,rfl⟩ (qb3 qw4 L.length (fun j=> [strs (L.getD j [])]) (fun j=>strs (L.getD j [])) _ [] [] _ h (fun i _=>⟨rfl,by simp[jn],rfl,rfl,rfl⟩) (fun i _=> ?_) (by omega));exact gr1 _ h (hw i)
theorem gc2(b:List Wd)(h:List AObj)(hn:b.length≤9223372036854775807):
  ACalls Tryz.prog 92 [qU b,.fn (.func 93) [] []] h (.bool (qY (fun j=>decide (30<(b.getD j default).text.length)) b.length)) h:=by
 unfold qU;refine qnC qth ⟨rfl,rfl⟩ ⟨rfl,rfl⟩ (qb3 qk3 b.length (fun j=>wdC (b.getD j default)) (fun j=> .agg (wdC (b.getD j default))) _ [] [] _ h (fun i _=>⟨rfl,by simp[jn,wdC],rfl,rfl,rfl⟩) (fun i _=> ?_) (by omega));exact gr2 _ h
theorem gc3(L:List Str)(h:List AObj)(hn:L.length≤9223372036854775807):
  ACalls Tryz.prog 94 [strs L,.fn (.func 95) [] []] h (.bool (qY (fun j=>decide (40<(L.getD j []).length)) L.length)) h:=by
 unfold strs;refine qnC qAN ⟨rfl,rfl⟩ ⟨rfl,rfl⟩ (qb3 qAz L.length (fun j=> [.str (L.getD j [])]) (fun j=> .str (L.getD j [])) _ [] [] _ h (fun i _=>⟨rfl,by simp[jn],rfl,rfl,rfl⟩) (fun i _=> ?_) (by omega));exact gr3 _ h
def qtp(a:Ap):Bool:=qtm a.x||(qtn a.l||(qk9 a.x.sig a.gs||(decide (18<a.gs.length)||(decide (12<a.cls.length)||(qY (fun j=>gwB (a.cls.getD j []) 8) a.cls.length||(decide (14<a.b.length)||(qY (fun j=>decide (30<(a.b.getD j default).text.length)) a.b.length||(decide (18<a.lay.length)||(qY (fun j=>decide (40<(a.lay.getD j []).length)) a.lay.length||decide (20<a.pos.length))))))))))
theorem grP(a:Ap)(h:List AObj)(hb:ApB a):ACalls Tryz.prog 23 [.agg (apC a)] h (.bool (qtp a)) h:=by
 have c1:=fun h=>qCT a.x h hb.x
 have c2:=fun h=>qCU a.l h hb.l
 have c3:=fun h=>qCV a.x.sig a.gs h hb.x.sg hb.g
 have c4:=fun h=>gc1 a.cls h hb.c hb.cw
 have c5:=fun h=>gc2 a.b h hb.b
 have c6:=fun h=>gc3 a.lay h hb.y
 obtain⟨bA,hA⟩: ∃b,b=qtm a.x:=⟨_,rfl⟩
 simp only[←hA]at c1;obtain⟨bB,hB⟩: ∃b,b=qtn a.l:=⟨_,rfl⟩
 simp only[←hB]at c2;obtain⟨bC,hC⟩: ∃b,b=qk9 a.x.sig a.gs:=⟨_,rfl⟩
 simp only[←hC]at c3;obtain⟨bF,hF⟩: ∃b,b=qY (fun j=>gwB (a.cls.getD j []) 8) a.cls.length:=⟨_,rfl⟩
 simp only[←hF]at c4;obtain⟨bH,hH⟩: ∃b,b=qY (fun j=>decide (30<(a.b.getD j default).text.length)) a.b.length:=⟨_,rfl⟩
 simp only[←hH]at c5;obtain⟨bJ,hJ⟩: ∃b,b=qY (fun j=>decide (40<(a.lay.getD j []).length)) a.lay.length:=⟨_,rfl⟩
 simp only[←hJ]at c6;unfold coC strs qo qr at c1;unfold qy at c2;unfold strs qF at c3;unfold jm at c4;unfold qU at c5;unfold strs at c6;obtain⟨R,hR⟩: ∃R,R=qtp a:=⟨_,rfl⟩
 rw[←hR];unfold qtp at hR;rw[←hA]at hR;rw[←hB]at hR;rw[←hC]at hR;rw[←hF]at hR;rw[←hH]at hR;rw[←hJ]at hR;cases bA with
 |true=>
  rw[Bool.true_or]at hR;rw[hR];refine acO qcw ?_;simp (disch:=omega) only[qiY,apC,strs,qo,qr,qy,jm,qU,qF,jD,go_sem]
  repeat' first
   |(refine qk ( .bool false) ?_;simp (disch:=omega) only[go_sem])
   |(refine cA (c1 _) ?_ ?_;exact flk;simp (disch:=omega) only[go_sem])
   |(apply qb;exact rvk;simp only[go_sem];exact qj)
 |false=>
 rw[Bool.false_or]at hR;cases bB with
 |true=>
  rw[Bool.true_or]at hR;rw[hR];refine acO qcw ?_;simp (disch:=omega) only[qiY,apC,strs,qo,qr,qy,jm,qU,qF,jD,go_sem]
  repeat' first
   |(refine qk ( .bool false) ?_;simp (disch:=omega) only[go_sem])
   |((first|refine cA (c1 _) ?_ ?_|refine cG (fun e=>c2 _) ?_ ?_);exact flk;simp (disch:=omega) only[go_sem])
   |(apply qb;exact rvk;simp only[go_sem];exact qj)
 |false=>
 rw[Bool.false_or]at hR;cases bC with
 |true=>
  rw[Bool.true_or]at hR;rw[hR];refine acO qcw ?_;simp (disch:=omega) only[qiY,apC,strs,qo,qr,qy,jm,qU,qF,jD,go_sem]
  repeat' first
   |(refine qk ( .bool false) ?_;simp (disch:=omega) only[go_sem])
   |((first|refine cA (c1 _) ?_ ?_|refine cG (fun e=>c2 _) ?_ ?_|refine cG (fun e=>c3 _) ?_ ?_);exact flk;simp (disch:=omega) only[go_sem])
   |(apply qb;exact rvk;simp only[go_sem];exact qj)
 |false=>
 rw[Bool.false_or]at hR
 by_cases gD:18<a.gs.length
 ·have kD:((18:Int)<a.gs.length)=True:=eq_true (by omega);rw[decide_eq_true gD,Bool.true_or]at hR;rw[hR];refine acO qcw ?_;simp (disch:=omega) only[qiY,apC,strs,qo,qr,qy,jm,qU,qF,jD,go_sem]
  repeat' first
   |(refine qk ( .bool false) ?_;simp (disch:=omega) only[go_sem])
   |((first|refine cA (c1 _) ?_ ?_|refine cG (fun e=>c2 _) ?_ ?_|refine cG (fun e=>c3 _) ?_ ?_);exact flk;simp (disch:=omega) only[kD,go_sem])
   |(apply qb;exact rvk;simp only[go_sem];exact qj)
 have kD:((18:Int)<a.gs.length)=False:=eq_false (by omega);rw[decide_eq_false gD,Bool.false_or]at hR
 by_cases gE:12<a.cls.length
 ·have kE:((12:Int)<a.cls.length)=True:=eq_true (by omega);rw[decide_eq_true gE,Bool.true_or]at hR;rw[hR];refine acO qcw ?_;simp (disch:=omega) only[qiY,apC,strs,qo,qr,qy,jm,qU,qF,jD,go_sem]
  repeat' first
   |(refine qk ( .bool false) ?_;simp (disch:=omega) only[go_sem])
   |((first|refine cA (c1 _) ?_ ?_|refine cG (fun e=>c2 _) ?_ ?_|refine cG (fun e=>c3 _) ?_ ?_);exact flk;simp (disch:=omega) only[kD,kE,go_sem])
   |(apply qb;exact rvk;simp only[go_sem];exact qj)
 have kE:((12:Int)<a.cls.length)=False:=eq_false (by omega);rw[decide_eq_false gE,Bool.false_or]at hR;cases bF with
 |true=>
  rw[Bool.true_or]at hR;rw[hR];refine acO qcw ?_;simp (disch:=omega) only[qiY,apC,strs,qo,qr,qy,jm,qU,qF,jD,go_sem]
  repeat' first
   |(refine qk ( .bool false) ?_;simp (disch:=omega) only[go_sem])
   |((first|refine cA (c1 _) ?_ ?_|refine cG (fun e=>c2 _) ?_ ?_|refine cG (fun e=>c3 _) ?_ ?_|refine cG (fun e=>c4 _) ?_ ?_);exact flk;simp (disch:=omega) only[kD,kE,go_sem])
   |(apply qb;exact rvk;simp only[go_sem];exact qj)
 |false=>
 rw[Bool.false_or]at hR
 by_cases gG:14<a.b.length
 ·have kG:((14:Int)<a.b.length)=True:=eq_true (by omega);rw[decide_eq_true gG,Bool.true_or]at hR;rw[hR];refine acO qcw ?_;simp (disch:=omega) only[qiY,apC,strs,qo,qr,qy,jm,qU,qF,jD,go_sem]
  repeat' first
   |(refine qk ( .bool false) ?_;simp (disch:=omega) only[go_sem])
   |((first|refine cA (c1 _) ?_ ?_|refine cG (fun e=>c2 _) ?_ ?_|refine cG (fun e=>c3 _) ?_ ?_|refine cG (fun e=>c4 _) ?_ ?_);exact flk;simp (disch:=omega) only[kD,kE,kG,go_sem])
   |(apply qb;exact rvk;simp only[go_sem];exact qj)
 have kG:((14:Int)<a.b.length)=False:=eq_false (by omega);rw[decide_eq_false gG,Bool.false_or]at hR;cases bH with
 |true=>
  rw[Bool.true_or]at hR;rw[hR];refine acO qcw ?_;simp (disch:=omega) only[qiY,apC,strs,qo,qr,qy,jm,qU,qF,jD,go_sem]
  repeat' first
   |(refine qk ( .bool false) ?_;simp (disch:=omega) only[go_sem])
   |((first|refine cA (c1 _) ?_ ?_|refine cG (fun e=>c2 _) ?_ ?_|refine cG (fun e=>c3 _) ?_ ?_|refine cG (fun e=>c4 _) ?_ ?_|refine cG (fun e=>c5 _) ?_ ?_);exact flk;simp (disch:=omega) only[kD,kE,kG,go_sem])
   |(apply qb;exact rvk;simp only[go_sem];exact qj)
 |false=>
 rw[Bool.false_or]at hR
 by_cases gI:18<a.lay.length
 ·have kI:((18:Int)<a.lay.length)=True:=eq_true (by omega);rw[decide_eq_true gI,Bool.true_or]at hR;rw[hR];refine acO qcw ?_;simp (disch:=omega) only[qiY,apC,strs,qo,qr,qy,jm,qU,qF,jD,go_sem]
  repeat' first
   |(refine qk ( .bool false) ?_;simp (disch:=omega) only[go_sem])
   |((first|refine cA (c1 _) ?_ ?_|refine cG (fun e=>c2 _) ?_ ?_|refine cG (fun e=>c3 _) ?_ ?_|refine cG (fun e=>c4 _) ?_ ?_|refine cG (fun e=>c5 _) ?_ ?_);exact flk;simp (disch:=omega) only[kD,kE,kG,kI,go_sem])
   |(apply qb;exact rvk;simp only[go_sem];exact qj)
 have kI:((18:Int)<a.lay.length)=False:=eq_false (by omega);rw[decide_eq_false gI,Bool.false_or]at hR;cases bJ with
 |true=>
  rw[Bool.true_or]at hR;rw[hR];refine acO qcw ?_;simp (disch:=omega) only[qiY,apC,strs,qo,qr,qy,jm,qU,qF,jD,go_sem]
  repeat' first
   |((first|refine cA (c1 _) ?_ ?_|refine cG (fun e=>c2 _) ?_ ?_|refine cG (fun e=>c3 _) ?_ ?_|refine cG (fun e=>c4 _) ?_ ?_|refine cG (fun e=>c5 _) ?_ ?_|refine cG (fun e=>c6 _) ?_ ?_);exact flk;simp (disch:=omega) only[kD,kE,kG,kI,go_sem])
   |(apply qb;exact rvk;simp only[go_sem];exact qj)
 |false=>
 rw[Bool.false_or]at hR;have e1:decide ((20:Int)<a.pos.length)=decide (20<a.pos.length):=decide_eq_decide.2 (by omega);rw[hR,←e1];refine acO qcw ?_;simp (disch:=omega) only[qiY,apC,strs,qo,qr,qy,jm,qU,qF,jD,go_sem]
 repeat' first
  |((first|refine cA (c1 _) ?_ ?_|refine cG (fun e=>c2 _) ?_ ?_|refine cG (fun e=>c3 _) ?_ ?_|refine cG (fun e=>c4 _) ?_ ?_|refine cG (fun e=>c5 _) ?_ ?_|refine cG (fun e=>c6 _) ?_ ?_);exact flk;simp (disch:=omega) only[kD,kE,kG,kI,go_sem])
  |(apply qb;exact rvk;simp only[go_sem];exact qj)
  |with_reducible apply aiA
 all_goals try exact clz
theorem qZ{α:Type}{d:α}(L:List α)(P:α→Prop)(hd:P d)(h: ∀i,i<L.length→P (L.getD i d)): ∀i,P (L.getD i d):=by
 intro i
 by_cases hi:i<L.length
 ·exact h i hi
 ·rw[gdqA,List.getElem?_eq_none (by omega)];exact hd
theorem qx8{x:Co}(h:qtm x=false):qnz x∧x.col.length≤24∧x.sig.length≤36:=by
 unfold qtm at h;rw[Bool.or_eq_false_iff,Bool.or_eq_false_iff,Bool.or_eq_false_iff,Bool.or_eq_false_iff,qn,decide_eq_false_iff_not,decide_eq_false_iff_not]at h;obtain⟨h1,h2,h3,h4,h5⟩:=h;unfold gtB at h2;rw[Bool.or_eq_false_iff,qn,Bool.or_eq_false_iff,Bool.or_eq_false_iff,decide_eq_false_iff_not,decide_eq_false_iff_not]at h2;obtain⟨t1,t2,t3,t4⟩:=h2;unfold gnB at h5;rw[Bool.or_eq_false_iff,qn,decide_eq_false_iff_not]at h5;obtain⟨n1,n2⟩:=h5;have hrow: ∀i,i<x.tok.length→(x.tok.getD i []).length≤6∧ ∀j,j<(x.tok.getD i []).length→qbJ ((x.tok.getD i []).getD j default)=false:=fun i hi=>by
  have:=t1 i hi
  unfold qcP at this;rw[Bool.or_eq_false_iff,Bool.or_eq_false_iff,decide_eq_false_iff_not,qn]at this;exact⟨by omega,this.2.2⟩
 have hd0:qqo (default:Tk):=⟨by decide,by decide,by decide,by decide⟩
 refine⟨⟨by omega,by omega,?_,by omega,?_,?_,by omega,?_⟩,by omega,by omega⟩
 ·exact qZ x.sig (fun s=>s.length≤1000000000) (by decide) fun i hi=>by
   have:=of_decide_eq_false (n1 i hi)
   omega
 ·exact qZ x.tok (fun s=>s.length≤1000000000) (by decide) fun i hi=>by have:=(hrow i hi).1;omega
 ·exact qZ x.tok (fun s=> ∀j,qqo (s.getD j default)) (fun j=>by simpa using hd0) fun i hi=>qZ _ qqo hd0 fun j hj=>by
   have:=(hrow i hi).2 j hj
   unfold qbJ at this;simp only[Bool.or_eq_false_iff,decide_eq_false_iff_not]at this;exact⟨by omega,by omega,by omega,by omega⟩
 ·exact qZ x.col (fun s=>s.length≤1000000000) (by decide) fun i hi=>by
   have:=of_decide_eq_false (h1 i hi)
   omega
theorem qx9{l:List Un}(h:qtn l=false):qrB l∧l.length≤12:=by
 unfold qtn at h;rw[Bool.or_eq_false_iff,qn,decide_eq_false_iff_not]at h;obtain⟨h1,h2⟩:=h;have hu: ∀i,i<l.length→(l.getD i default).rds.length≤6∧ ∀j,j<(l.getD i default).rds.length→((l.getD i default).rds.getD j default).src.length≤8∧((l.getD i default).rds.getD j default).words.length≤8:=fun i hi=>by
  have:=h1 i hi
  unfold guB at this;rw[Bool.or_eq_false_iff,decide_eq_false_iff_not,qn]at this;refine⟨by omega,fun j hj=> ?_⟩;have h3:=this.2 j hj;unfold guR at h3;rw[Bool.or_eq_false_iff,decide_eq_false_iff_not]at h3
  have:=(qrc h3.2).1
  exact⟨by omega,by omega⟩
 refine⟨⟨by omega,?_,?_,?_⟩,by omega⟩
 ·exact qZ l (fun u=>u.rds.length≤1000000000) (by decide) fun i hi=>by have:=(hu i hi).1;omega
 ·exact qZ l (fun u=> ∀j,(u.rds.getD j default).src.length≤1000000000) (fun j=>by simp[show (default:Un).rds= []from rfl,show (default:Rd).src= []from rfl]) fun i hi=>qZ _ (fun r:Rd=>r.src.length≤1000000000) (by decide) fun j hj=>by have:=(hu i hi).2 j hj;omega
 ·exact qZ l (fun u=> ∀j,(u.rds.getD j default).words.length≤1000000000) (fun j=>by simp[show (default:Un).rds= []from rfl,show (default:Rd).words= []from rfl]) fun i hi=>qZ _ (fun r:Rd=>r.words.length≤1000000000) (by decide) fun j hj=>by have:=(hu i hi).2 j hj;omega
structure qnF (a:Ap):Prop where
 co:qnz a.x
 un:qrB a.l
 l12:a.l.length≤12
 b14:a.b.length≤14
 bt: ∀i,(a.b.getD i default).text.length≤30
 y18:a.lay.length≤18
 yl: ∀i,(a.lay.getD i []).length≤40
 p20:a.pos.length≤20
 c12:a.cls.length≤12
 cw: ∀i,(a.cls.getD i []).length≤8
 g42:qk9 a.x.sig a.gs=false
theorem qla{a:Ap}(h:qtp a=false):qnF a:=by
 unfold qtp at h;simp only[Bool.or_eq_false_iff,decide_eq_false_iff_not]at h;obtain⟨h1,h2,h3,h4,h5,h6,h7,h8,h9,h10,h11⟩:=h;obtain⟨o1,o2,o3⟩:=qx8 h1;obtain⟨u1,u2⟩:=qx9 h2;refine⟨o1,u1,u2,by omega,?_,by omega,?_,by omega,by omega,?_,h3⟩
 ·exact qZ a.b (fun w=>w.text.length≤30) (by decide) fun i hi=>by have:=of_decide_eq_false (qn.1 h8 i hi);omega
 ·exact qZ a.lay (fun s=>s.length≤40) (by decide) fun i hi=>by have:=of_decide_eq_false (qn.1 h10 i hi);omega
 ·exact qZ a.cls (fun w=>w.length≤8) (by decide) fun i hi=>(qrc (qn.1 h6 i hi)).1
end RC
end
section
namespace AF
open Go
theorem Wk.moveCell{t:List AV}{h:List AObj}{i j a w v:Nat}{ty ty':TypeId}{ds cs:List AV}{sz off len:Nat}
  (hi:qH i h=some (.mem w ty' ds)) (ha:ds[a]? =some (.osl j v sz off len)) (hj:qH j h=some (.mem v ty cs)) (hne:i≠j):
  Wk t h t (zg i (zg j h (.emp (v+1))) (.mem w ty' (ds.set a (.osl h.length 1 sz off len)))++ [.mem 1 ty cs]):=by
 intro N W σ A H;obtain⟨p1,p2⟩:=H.hr.pushN 1;have hjl:=kX hj;have hil:=kX hi;have hj':qH j (h++ [.emp 0])=some (.mem v ty cs):=by rw[qex hjl];exact hj
 have hg:qH h.length (h++ [AObj.emp 0])=some (.emp 0):=by unfold qH;rw[List.getElem?_append_right (Nat.le_refl _),Nat.sub_self];rfl
 have hk':qz (h++ [.emp 0]) h.length=true:=by unfold qz;rw[hg]
 obtain⟨σ2,q1,q2,q3⟩:=HR.move (h:=h++ [.emp 0]) p1 hj' hk' (by omega);have e0:zg h.length (zg j (h++ [.emp 0]) (.emp (v+1))) (.mem (qq (qH h.length (h++ [.emp 0]))+1) ty cs)=zg j h (.emp (v+1))++ [.mem 1 ty cs]:=by
  rw[hg];unfold zg;rw[List.set_append_left _ _ hjl,List.set_append_right _ _ (by rw[List.length_set];exact Nat.le_refl _),List.length_set,Nat.sub_self];rfl
 rw[e0]at q1;rw[hg]at q3;have ee:=p2.trans q2;have hiq:qH i (zg j h (.emp (v+1))++ [.mem 1 ty cs])=some (.mem w ty' ds):=by
  rw[qex (by rw[qdF];exact hil),qbO (by exact hne)];exact hi
 obtain⟨o,b,arr,o1,o2,o3,o4,o5,o6,o7,o8,o9⟩:=jg q1 (zj hiq);obtain⟨o',b',arr',r1,r2,r3,r4,r5,r6,r7,r8,r9⟩:=jg H.hr (zj hi);obtain⟨o2',s1,s2,s3⟩:=ee.obj i o' r1;rw[o1]at s1;cases s1;have eo:o=o':=s3 (o2.trans r2.symm);subst eo;rw[o4]at r4;cases r4;have earr:arr=arr':=by
  obtain⟨T,fz,_,x1⟩:=o5;obtain⟨T',fz',_,x2⟩:=r5;rw[x1]at x2;cases x2;rfl
 subst earr;have q:=q1.recell (cs':=ds.set a (.osl h.length 1 sz off len)) hiq o1 o4 o5 o6 (by simpa using o7) (fun n x hn hx=>o8 n x (by simpa using hn) hx) (fun n d x hd hx=>by
  rw[List.getElem?_set]at hd;split at hd
  ·rename_i e;subst e;split at hd
   ·cases hd;exact q3 sz off len x ((r9 a _ x ha hx).ext p2)
   ·cases hd
  ·exact o9 n d x hd hx)
 have e1:zg i (zg j h (.emp (v+1))++ [.mem 1 ty cs]) (.mem w ty' (ds.set a (.osl h.length 1 sz off len)))=zg i (zg j h (.emp (v+1))) (.mem w ty' (ds.set a (.osl h.length 1 sz off len)))++ [.mem 1 ty cs]:=by
  unfold zg;rw[List.set_append_left _ _ (by rw[List.length_set];exact hil)]
 rw[e1]at q;exact⟨σ2,⟨q,H.sz,fun n d x hd hx=>(H.tm n d x hd hx).ext ee,qaP ee H.df⟩,ee⟩
end AF
end
section
open Go Go.Proofs AF HY LN
namespace RC
def jy(base:Nat)(L:List Rd):List AV:=(List.range L.length).flatMap fun j=> [strs (L.getD j default).words,.osl (base+j) (L.getD j default).src.length 1 0 (L.getD j default).src.length]
def qdi(L:List Rd):List AObj:=L.map fun r=> .mem r.src.length 3 (qx r.src)
theorem qg1(L:List Rd):(qdi L).length=L.length:=by simp[qdi]
theorem qdQ{L:List Rd}{j:Nat}(hj:j<L.length):(qdi L)[j]? =some (.mem (L.getD j default).src.length 3 (qx (L.getD j default).src)):=by
 unfold qdi;rw[List.getElem?_map,zA hj,gdqA,zA hj];rfl
theorem qg0(L M:List Rd):qdi (L++M)=qdi L++qdi M:=by simp[qdi]
theorem qg2{L:List Rd}{j:Nat}(r:Rd):(qdi L).set j (.mem r.src.length 3 (qx r.src))=qdi (L.set j r):=by
 unfold qdi;rw[List.map_set]
theorem qdh{α:Type}(f g:Nat→List α): ∀n,(∀i,i<n→f i=g i)→(List.range n).flatMap f=(List.range n).flatMap g:=fun n h=>by
 rw[List.flatMap_def,List.flatMap_def];congr 1;exact List.map_congr_left fun i hi=>h i (List.mem_range.1 hi)
theorem qeP(base:Nat)(L:List Rd)(r:Rd):jy base (L++ [r])=jy base L++ [strs r.words,.osl (base+L.length) r.src.length 1 0 r.src.length]:=by
 unfold jy;rw[List.length_append,List.length_singleton,List.range_succ,List.flatMap_append];congr 1
 ·refine qdh _ _ _ fun i hi=> ?_
  rw[gdqA,List.getElem?_append_left hi,←gdqA]
 ·simp
theorem qaG(base:Nat)(L:List Rd):(jy base L).length=2*L.length:=by
 unfold jy;generalize L.length=n;generalize hf:(fun j=> [strs (L.getD j default).words,AV.osl (base+j) (L.getD j default).src.length 1 0 (L.getD j default).src.length])=f;have h2: ∀j,(f j).length=2:=fun j=>by rw[←hf];rfl
 induction n with
 |zero=>rfl
 |succ n ih=>rw[List.range_succ,List.flatMap_append,List.length_append,ih];simp[h2];omega
theorem qbv(base:Nat)(L:List Rd){k:Nat}(hk:k<L.length): ∃A B,A.length=2*k∧jy base L=A++ [strs (L.getD k default).words,.osl (base+k) (L.getD k default).src.length 1 0 (L.getD k default).src.length]++B∧
  ∀s,jy base (L.set k ⟨(L.getD k default).words,s⟩)=A++ [strs (L.getD k default).words,.osl (base+k) s.length 1 0 s.length]++B:=by
 have e:List.range L.length=List.range k++k::(List.range (L.length-(k+1))).map (fun i=>k+1+i):=by
  conv=>lhs;rw[show L.length=k+1+(L.length-(k+1)) by omega,List.range_add,List.range_succ,List.append_assoc]
  rfl
 refine⟨(List.range k).flatMap fun j=> [strs (L.getD j default).words,.osl (base+j) (L.getD j default).src.length 1 0 (L.getD j default).src.length],((List.range (L.length-(k+1))).map (fun i=>k+1+i)).flatMap fun j=> [strs (L.getD j default).words,.osl (base+j) (L.getD j default).src.length 1 0 (L.getD j default).src.length],?_,?_,fun s=> ?_⟩
 ·have h2: ∀(f:Nat→List AV),(∀j,(f j).length=2)→ ∀n,((List.range n).flatMap f).length=2*n:=fun f hf n=>by
   induction n with
   |zero=>rfl
   |succ n ih=>rw[List.range_succ,List.flatMap_append,List.length_append,ih];simp[hf];omega
  exact h2 _ (fun _=>rfl) _
 ·unfold jy;rw[e,List.flatMap_append,List.flatMap_cons,List.append_assoc]
 ·unfold jy;rw[List.length_set,e,List.flatMap_append,List.flatMap_cons,List.append_assoc];have g: ∀j,(L.set k ⟨(L.getD k default).words,s⟩).getD j default=if j=k then ⟨(L.getD k default).words,s⟩ else L.getD j default:=fun j=>jT hk
  congr 1
  ·refine qdh _ _ _ fun i hi=> ?_
   rw[g,if_neg (by omega)]
  ·rw[g,if_pos rfl];show _::_::_=_::_::_;congr 2;rw[List.flatMap_def,List.flatMap_def,List.map_map,List.map_map];refine congrArg List.flatten (List.map_congr_left fun i _=> ?_);simp only[Function.comp];rw[g,if_neg (by omega)]
theorem qgZ{base:Nat}{L:List Rd}{i:Nat}(hi:i<L.length):((jy base L).drop (i*2)).take 2= [strs (L.getD i default).words,.osl (base+i) (L.getD i default).src.length 1 0 (L.getD i default).src.length]:=by
 obtain⟨A,B,h1,h2,_⟩:=qbv base L hi;rw[h2,show i*2=A.length by omega,List.append_assoc,List.drop_append,Nat.sub_self];simp
theorem qgO{L:List Int}{n:Nat}{g:AV→AV}(hg: ∀x,g (.int .i64 x)= .int .i64 x)(hn:n=L.length):ILe (qd9 (some (.mem n 3 (qx L))) n 1 0 n g) (ql L):=by
 subst hn;rw[slOf_mem,if_pos ⟨rfl,by rw[qV];omega⟩];refine ILe.sl_eq fun i hi=> ?_
 simp only[Nat.zero_add,Nat.mul_one];have e:((qx L).drop i).take 1= [.int .i64 (L.getD i 0)]:=by
  rw[List.drop_eq_getElem_cons (by rw[qV];exact hi),List.take_succ_cons,List.take_zero];have h:=qlk (C:=L) hi;rw[zA (by rw[qV];exact hi)]at h;rw[Option.some.inj h]
 rw[e,List.map_cons,List.map_nil,hg]
theorem qme{base v:Nat}{L:List Rd}{n:Nat}{fz:Nat→Bool}{H:List AObj}{d:Nat}(hn:n=L.length)(hf: ∀j,j<L.length→fz (base+j)=true)(hj: ∀j,j<L.length→qH (base+j) H=some (.mem (L.getD j default).src.length 3 (qx (L.getD j default).src))):
  VLe (qd9 (some (zV v 89 (jy base L))) v 2 0 n (rei fz H (d+2))) (zx L):=by
 subst hn
 by_cases h0:L= []
 ·subst h0;show VLe (qd9 (some (.emp v)) v 2 0 0 _) _;rw[slOf_emp,if_pos rfl];exact jS
 ·have e0:zV v 89 (jy base L)= .mem v 89 (jy base L):=jJ (fun e=>h0 (by
   have:=qaG base L
   rw[e]at this
   exact List.eq_nil_of_length_eq_zero (by simp at this;omega)))
  rw[e0,slOf_mem,if_pos ⟨rfl,by rw[qaG];omega⟩];refine VLe.sl (fun i hi=> ?_);simp only[Nat.zero_add];rw[qgZ hi];refine⟨ILe.refl _,?_,trivial⟩;show ILe (rei fz H (d+1+1) (.osl (base+i) _ 1 0 _)) _;rw[rei_osl,if_pos (hf i hi),hj i hi];exact qgO (fun _=>rfl) rfl
theorem qkC{A B:List AV}{a b c:AV}{n:Nat}(hn:n=A.length+1):List.take n (A++ [a,b]++B)++ [c]++List.drop (n+1) (A++ [a,b]++B)=A++ [a,c]++B:=by
 have e1:A++ [a,b]++B=(A++ [a])++(b::B):=by simp
 have e2:A++ [a,b]++B=(A++ [a]++ [b])++B:=by simp
 have h1:List.take n (A++ [a,b]++B)=A++ [a]:=by rw[e1];exact List.take_left' (by rw[List.length_append,List.length_singleton,hn])
 have h2:List.drop (n+1) (A++ [a,b]++B)=B:=by rw[e2];exact List.drop_left' (by rw[List.length_append,List.length_append,List.length_singleton,List.length_singleton,hn])
 rw[h1,h2];simp
theorem qcm{hi:Int}: ∀ {S:List Int} {lo:Int},S.Pairwise (· < ·)→(∀x∈S,lo≤x∧x<hi)→S.length≤(hi-lo).toNat:=by
 intro S
 induction S with
 |nil=>intro lo _ _;exact Nat.zero_le _
 |cons a S ih=>
  intro lo h1 h2;obtain⟨p1,p2⟩:=List.pairwise_cons.1 h1;have ha:=h2 a List.mem_cons_self
  have:=ih (lo:=a+1) p2 fun x hx=>⟨by have:=p1 x hx;omega,(h2 x (List.mem_cons_of_mem _ hx)).2⟩
  rw[List.length_cons];omega
theorem qA2{h M:List AObj}{a0 a1 a2 a3 a4 a5 a6 a7 a8:AObj}:(h++a0::a1::a2::a3::a4::a5::a6::a7::a8::M).length=h.length+9+M.length:=by
 simp only[List.length_append,List.length_cons];omega
theorem qew{h M:List AObj}{a0 a1 a2 a3 a4 a5 a6 a7 a8:AObj}{j:Nat}:qH (h.length+9+j) (h++a0::a1::a2::a3::a4::a5::a6::a7::a8::M)=M[j]? :=by
 unfold qH;rw[List.getElem?_append_right (by omega),show h.length+9+j-h.length=j+9 by omega];rfl
theorem qy1{h M:List AObj}{a0 a1 a2 a3 a4 a5 a6 a7 a8 o:AObj}{j:Nat}:zg (h.length+9+j) (h++a0::a1::a2::a3::a4::a5::a6::a7::a8::M) o=h++a0::a1::a2::a3::a4::a5::a6::a7::a8::M.set j o:=by
 unfold zg;rw[List.set_append_right _ _ (by omega),show h.length+9+j-h.length=j+9 by omega];rfl
theorem qDf(x:Co)(f t:Nat)(h:List AObj)(ho:CoOk x)(ht:t≤x.col.length)(hn:x.col.length≤1000000000):ACalls Tryz.prog 232 [.agg (coC x),.int .i64 (f:Int),.int .i64 (t:Int)] h (zx (qdj x f t)) h:=by
 have zl: ∀g,valL g .len [strs x.sig]= .int .i64 x.sig.length:=fun _=>rfl
 have zo: ∀g,okL g .len [strs x.sig]=True:=fun _=>eq_true trivial
 refine acO qxv ?_;simp (disch:=omega) only[qvY,coC,zl,zo,go_sem];refine qm (T:=fun i:Nat×Nat×AObj×AObj×AObj×AObj=>qI 48 [(1,.int .i64 (f:Int)),(2,.int .i64 (t:Int)),(3,.op h.length 1 0),(7,.osl (h.length+2) i.2.1 2 0 (jX x f (t-f) i.1).length),(13,.int .i64 x.sig.length),(14,.int .i64 i.1)])
  (H:=fun i=>h++ .mem 1 26 (coC x):: .emp 1::zV i.2.1 89 (jy (h.length+9) (jX x f (t-f) i.1))::i.2.2.1::i.2.2.2.1::i.2.2.2.2.1:: .emp 0::i.2.2.2.2.2:: .emp 0::qdi (jX x f (t-f) i.1))
  (inv:=fun i=>i.1≤x.sig.length∧qz [i.2.2.1] 0=true∧qz [i.2.2.2.1] 0=true∧qz [i.2.2.2.2.1] 0=true∧qz [i.2.2.2.2.2] 0=true) (m:=fun i=>x.sig.length-i.1) (0,1,.emp 0,.emp 0,.emp 0,.emp 0) ⟨Nat.zero_le _,rfl,rfl,rfl,rfl⟩ (Wk.temps ?_) ?_
 ·(simp only[jX,List.length_nil,go_sem,qh,qd,qa,qg];try (repeat' first|(with_reducible apply aiA)|(apply qi;omega)|(apply qe;rfl)|exact qj))
 rintro⟨s,v,O3,O4,O5,O7⟩ ⟨i1,j3,j4,j5,j7⟩ K hK;simp only at i1 j3 j4 j5 j7 hK;have j3': ∀m,qz (O3::m) 0=true:=fun _=>j3
 have j4': ∀m,qz (O4::m) 0=true:=fun _=>j4
 have j5': ∀m,qz (O5::m) 0=true:=fun _=>j5
 have j7': ∀m,qz (O7::m) 0=true:=fun _=>j7
 have hst:jX x f (t-f) (s+1)=qds (jX x f (t-f) s) (rdG x s f (t-f)) s:=rfl;have hln:=qdS x f (t-f) s;have hsg:=ho.sg;obtain⟨L,hL⟩: ∃L,L=jX x f (t-f) s:=⟨_,rfl⟩
 rw[←hL]at hst hln;have eL:=hL.symm
 by_cases hs:s<x.sig.length
 ·have k1:((s:Int)<x.sig.length)=True:=eq_true (by omega);have c21:=fun h=>rdP x f t s h ho ht hs hn
  obtain⟨w,hw⟩: ∃w,w=rdG x s f (t-f):=⟨_,rfl⟩
  rw[←hw]at hst;simp only[←hw]at c21;unfold coC at c21;simp (disch:=omega) only[coC,k1,eL,go_sem]
  repeat' first
   |(refine cA (c21 _) ?_ ?_;exact flk;simp (disch:=omega) only[j3',j4',go_sem])
  have hwl:w.length≤1000000000:=by have:=qaV x s f (t-f);rw[←hw]at this;omega
  have hRd:=qdR x f (t-f) s;rw[eL]at hRd;have hwL: ∀j,(L.getD j default).words.length≤1000000000:=qZ L (fun r=>r.words.length≤1000000000) (by decide) fun j hj=>by
   have h1:=hRd.nn j hj;obtain⟨y,ys,e⟩:=List.exists_cons_of_ne_nil h1;have h2:=hRd.wd j hj y (by rw[e];exact List.mem_cons_self);rw[h2]
   have:=qaV x y.toNat f (t-f)
   omega
  have hob:= @qdQ L;refine cA (r:= .int .i64 (qfc L w)) ?c (by exact flk) ?_
  case c=>
   refine ACalls.borrow ((fdP L ⟨w,[(s:Int)]⟩ [] (by omega) hwl hwL).le ?v (qj)) rfl;simp only[List.map_cons,List.map_nil,go_sem];refine⟨qme rfl (fun _ _=>rfl) (fun j hj=>by rw[qew];exact hob hj),VLe.agg ⟨qj,VLe.sl_eq rfl (fun i hi=> ?_),trivial⟩,qj,trivial⟩;obtain rfl:i=0:=by simpa using hi
   rfl
  have eKl:=qaG (h.length+9) L;rcases qaF L w with⟨k,b1,b2,b3⟩|⟨b1,b2⟩
  ·have q1:(qfc L w<0)=False:=eq_false (by omega);have hst2:jX x f (t-f) (s+1)=L.set k ⟨w,(L.getD k default).src++ [(s:Int)]⟩:=by
    rw[hst];unfold qds;rw[b3,if_neg (by omega),Int.toNat_natCast]
   obtain⟨A,B,a1,a2,a3⟩:=qbv (h.length+9) L b1;have a3:=a3 ((L.getD k default).src++ [(s:Int)]);have hne:(jy (h.length+9) L≠ [])=True:=eq_true fun e=>by rw[e]at eKl;simp at eKl;omega
   have hob:=hob b1;rw[b2]at a2 a3;have hos:= @qg2 L k ⟨w,(L.getD k default).src++ [(s:Int)]⟩;rw[←hst2]at hos a3;dsimp only at hos;obtain⟨S,hS⟩: ∃S,S=(L.getD k default).src:=⟨_,rfl⟩
   rw[←hS]at a2 a3 hob hos;rw[List.length_append,List.length_singleton]at a3 hos;rw[zN,show qx [(s:Int)]= [AV.int .i64 (s:Int)]from rfl]at hos;have gg:(jy (h.length+9) L)[k*2+1]? =some (.osl (h.length+9+k) S.length 1 0 S.length):=by
    rw[a2,List.append_assoc,List.getElem?_append_right (by omega),show k*2+1-A.length=1 by omega];rfl
   have gs:List.take (k*2+1) (jy (h.length+9) L)++ [.osl (h.length+9+k) (S.length+1) 1 0 (S.length+1)]++List.drop (k*2+1+1) (jy (h.length+9) L)=jy (h.length+9) (jX x f (t-f) (s+1)):=by
    rw[a2,a3];exact qkC (by omega)
   have eI:=qV S;have hSl:S.length≤1000:=by
    have:=(qcg x f (t-f) s).src (L.getD k default) (by rw[eL,gdqA,zA b1];exact List.getElem_mem b1)
    have:=qcm (hi:=(s:Int)) (lo:=0) this.1 this.2
    rw[←hS]at this;omega
   have eown:zV v 89 (jy (h.length+9) L)= .mem v 89 (jy (h.length+9) L):=jJ (of_eq_true hne);have el2:(jX x f (t-f) (s+1)).length=L.length:=by rw[hst2,List.length_set]
   have eown2:zV v 89 (jy (h.length+9) (jX x f (t-f) (s+1)))= .mem v 89 (jy (h.length+9) (jX x f (t-f) (s+1))):=jJ fun e=>by
    have:=qaG (h.length+9) (jX x f (t-f) (s+1))
    rw[e,el2]at this;simp at this;omega
   have eTi:List.take S.length (qx S)=qx S:=List.take_of_length_le (by omega);have kL:((k:Int)<L.length)=True:=eq_true (by omega);have k0:(0≤(k:Int))=True:=eq_true (by omega);rw[eown];simp (disch:=omega) only[b3,j7',gg,eKl,kL,k0,Option.getD_some,Option.isSome_some,qew,qy1,hob,eTi,Nat.mul_one,Int.toNat_natCast,go_sem]
   repeat' first
    |with_reducible first|intro _|apply aiA
   all_goals try exact clz
   all_goals try (simp only[qeH,kU,qew,hob,qdd,kT,if_true,Option.getD_some,eI,beq_self_eq_true];done)
   all_goals try (simp only[bne_iff_ne];omega)
   all_goals try (simp only[kU,qew,hob,kT,if_true,Option.getD_some,eI];exact Nat.le_refl _)
   rw[gs];have eD:(AV.int .i64 (s:Int)::List.drop 1 (qS [i6 0] 1))= [AV.int .i64 (s:Int)]:=rfl;simp only[eD];rw[hos];refine hK _ _ (s+1,v,.mem (qq (some O3)+1) 3 [.int .i64 (s:Int)],.mem (qq (some O4)+1) 89 [strs w,.osl (h.length+3) (qq (some O3)+1) 1 0 1],O5,.mem (qq (some O7)+1) 3 [.int .i64 (s:Int)]) ⟨hs,rfl,rfl,j5,rfl⟩ (by simp only;omega) ?_;simp only[eown2,el2,coC];refine Wk.temps ?_
   (simp only[go_sem,qh,qd,qa,qg];try (repeat' first|(with_reducible apply aiA)|(apply qi;omega)|(apply qe;rfl)|exact qj))
  ·have q1:(qfc L w<0)=True:=eq_true b2;have hst2:jX x f (t-f) (s+1)=L++ [⟨w,[(s:Int)]⟩]:=by
    rw[hst];unfold qds;rw[if_pos b2]
   have eTk:List.take (L.length*2) (jy (h.length+9) L)=jy (h.length+9) L:=List.take_of_length_le (by omega);simp (disch:=omega) only[q1,j5',eTk,eKl,Nat.mul_one,go_sem]
   repeat' first
    |with_reducible apply aiA
   all_goals try exact clz
   have el2:(jX x f (t-f) (s+1)).length=L.length+1:=by rw[hst2,List.length_append];rfl
   have eo:qdi (jX x f (t-f) (s+1))=qdi L++ [.mem 1 3 [.int .i64 (s:Int)]]:=by rw[hst2,qg0];rfl
   have ek:jy (h.length+9) (jX x f (t-f) (s+1))=jy (h.length+9) L++ [strs w,.osl (h.length+9+L.length) 1 1 0 1]:=by rw[hst2,qeP];rfl
   have eown:zV (v+1) 89 (jy (h.length+9) L++ [strs w,.osl (h.length+3) (qq (some O3)+1) 1 0 1])= .mem (v+1) 89 (jy (h.length+9) L++ [strs w,.osl (h.length+3) (qq (some O3)+1) 1 0 1]):=jJ (by simp);have eown2:zV (v+1) 89 (jy (h.length+9) L++ [strs w,.osl (h.length+9+L.length) 1 1 0 1])= .mem (v+1) 89 (jy (h.length+9) L++ [strs w,.osl (h.length+9+L.length) 1 1 0 1]):=jJ (by simp);have eset:(jy (h.length+9) L++ [strs w,AV.osl (h.length+3) (qq (some O3)+1) 1 0 1]).set (L.length*2+1) (.osl (h.length+9+L.length) 1 1 0 1)=jy (h.length+9) L++ [strs w,.osl (h.length+9+L.length) 1 1 0 1]:=by
    rw[List.set_append_right _ _ (by omega),eKl,show L.length*2+1-2*L.length=1 by omega];rfl
   rw[eown];refine hK _ _ (s+1,v+1,.emp (qq (some O3)+1+1),.mem (qq (some O4)+1) 89 [strs w,.osl (h.length+3) (qq (some O3)+1) 1 0 1],.mem (qq (some O5)+1) 89 [strs w,.osl (h.length+3) (qq (some O3)+1) 1 0 1],O7) ⟨hs,rfl,rfl,rfl,j7⟩ (by simp only;omega)
    (Wk.trans (Wk.moveCell (i:=h.length+2) (j:=h.length+3) (a:=L.length*2+1) (w:=v+1) (v:=qq (some O3)+1) (ty:=3) (ty':=89) (ds:=jy (h.length+9) L++ [strs w,.osl (h.length+3) (qq (some O3)+1) 1 0 1]) (cs:= [.int .i64 (s:Int)]) (sz:=1) (off:=0) (len:=1) ?m1 ?m2 ?m3 (by omega)) ?m4)
   case m1=>simp only[go_sem]
   case m2=>
    rw[List.getElem?_append_right (by omega),show L.length*2+1-(jy (h.length+9) L).length=1 by omega];rfl
   case m3=>simp only[go_sem];rfl
   case m4=>
    have eD:(AV.int .i64 (s:Int)::List.drop 1 (qS [i6 0] 1))= [AV.int .i64 (s:Int)]:=rfl;have eD2: ∀c:AV,(strs w::c::List.drop 2 (qS [AV.nl,AV.nl] 1))= [strs w,c]:=fun _=>rfl
    simp only[eo,ek,eown2,el2,coC,eD,eD2,qA2,qg1,go_sem,eset,List.append_assoc,List.cons_append];refine Wk.temps ?_
    (simp only[go_sem,qh,qd,qa,qg];try (repeat' first|(with_reducible apply aiA)|(apply qi;omega)|(apply qe;rfl)|exact qj))
 ·have k1:((s:Int)<x.sig.length)=False:=eq_false (by omega);obtain rfl:s=x.sig.length:=by omega
  have hF:qdj x f t=L:=by rw[hL];rfl
  rw[hF];simp (disch:=omega) only[k1,eL,go_sem]
  repeat' first
   |(apply qb;exact rvk;simp only[go_sem])
  exact qme rfl (fun j _=>decide_eq_true (by omega)) (fun j hj=>by rw[qew];exact qdQ hj)
theorem qCD(l:List Un)(f t:Nat)(k v k2 v2:Nat)(h:List AObj)(hk:qH k h=some (.mem v 3 [.int .i64 (f:Int)]))(hk2:qH k2 h=some (.mem v2 3 [.int .i64 (t:Int)]))(hn:l.length≤1000000000):
  ACalls Tryz.prog 54 [qy l,.fn (.func 234) [] [.op k v 0,.op k2 v2 0]] h (.bool (rnB l (f,t))) h:=by
 have hc:=zj hk;have hc2:=zj hk2;unfold qy rnB;refine qnC qAE ⟨rfl,rfl⟩ ⟨rfl,rfl⟩ (qb3 qqN l.length (fun j=>unC (l.getD j default)) (fun j=> .agg (unC (l.getD j default))) _ [] [.op k v 0,.op k2 v2 0] _ h (fun i _=>⟨rfl,by simp[jn,unC],rfl,rfl,rfl⟩) (fun i _=> ?_) (by omega));refine ACalls.borrow ?_ rfl;have e:([AV.agg (unC (l.getD i default))]++ [AV.op k v 0,AV.op k2 v2 0]).map (rei (fun _=>true) h 8)= [.agg (unC (l.getD i default)),.ip [.int .i64 (f:Int)],.ip [.int .i64 (t:Int)]]:=by
  simp only[List.cons_append,List.nil_append,List.map_cons,List.map_nil,rei_op,if_true,hc,hc2,ipOf_some,List.drop_zero,rei_agg];rfl
 rw[List.nil_append,e];exact qDh _ _ _ _
theorem qnS(l:List Un)(i:Nat):beH l (i+1)=(l.getD i default).to:=by unfold beH;rw[if_neg (by omega),Nat.add_sub_cancel]
theorem qtA(u:Un)(n v:Nat)(ty:TypeId):qaj n (.mem v ty (unC u)):=by
 intro c hc;simp only[unC,List.mem_cons,List.not_mem_nil,or_false]at hc;rcases hc with rfl|rfl|rfl<;>rfl
theorem que(x:Co): ∀a∈rnX x,a.length=2:=by
 intro a ha;unfold rnX at ha;obtain⟨_,_,rfl⟩:=List.mem_map.1 ha;rfl
theorem qmj(x:Co):(rnX x).length=(qfR (cmB x) x.col.length).length:=by simp[rnX]
theorem qud{x:Co}{i:Nat}(hi:i<(rnX x).length):(rnX x)[i]= [.int .i64 (((qfR (cmB x) x.col.length).getD i (0,0)).1:Int),.int .i64 (((qfR (cmB x) x.col.length).getD i (0,0)).2:Int)]:=by
 have h2:i<(qfR (cmB x) x.col.length).length:=by rw[←qmj];exact hi
 simp only[rnX,List.getElem_map];rw[gdqA,zA h2];rfl
theorem qmd(x:Co)(f d:Nat)(hd:d≤1000000000)(s:Nat)(hs:s≤1000000000):qi1 (jX x f d s):=by
 have hI:=qcg x f d s;have hH:=qdR x f d s;have hl:=qdS x f d s;refine⟨by omega,?_,?_⟩
 ·exact qZ _ (fun r:Rd=>r.src.length≤1000000000) (by decide) fun j hj=>by
   have:=hI.src ((jX x f d s).getD j default) (by rw[gdqA,zA hj];exact List.getElem_mem hj)
   have:=qcm (hi:=(s:Int)) (lo:=0) this.1 this.2
   omega
 ·exact qZ _ (fun r:Rd=>r.words.length≤1000000000) (by decide) fun j hj=>by
   have h1:=hH.nn j hj;obtain⟨y,ys,e⟩:=List.exists_cons_of_ne_nil h1;have h2:=hH.wd j hj y (by rw[e];exact List.mem_cons_self);rw[h2]
   have:=qaV x y.toNat f d
   omega
theorem qDi(x:Co)(l:List Un)(h:List AObj)(ho:CoOk x)(hn:x.col.length≤1000000000)(hu:qrB l):ACalls Tryz.prog 177 [.agg (coC x),qy l] h (.bool (rgB x l)) h:=by
 have hsg:=ho.sg;have hl:=hu.n;obtain⟨R,hR⟩: ∃R,R=rgB x l:=⟨_,rfl⟩
 rw[←hR];unfold rgB at hR;refine acO qxc ?_;simp (disch:=omega) only[qvH,coC,qy,go_sem]
 repeat' first
  |with_reducible apply aiA
 all_goals try exact clz
 refine qm (T:=fun i:Nat×AObj=>qI 63 [(2,.op h.length 1 0),(3,.op (h.length+1) 1 0),(4,.op (h.length+2) 1 0),(5,.int .i64 (beH l i.1)),(10,qy l),(11,.int .i64 l.length),(12,.int .i64 i.1)])
  (H:=fun i=>h++ [.mem 1 26 (coC x),.mem 1 27 [qy l],.mem 1 4 [.bool false],i.2,.emp 0,.emp 0])
  (inv:=fun i=>i.1≤l.length∧qz [i.2] 0=true∧(∀n,qaj n i.2)∧ ∀j,j<i.1→unB x (beH l j) (l.getD j default)=true) (m:=fun i=>l.length-i.1) (0,.emp 0) ⟨Nat.zero_le _,rfl,fun _=>trivial,fun j hj=>absurd hj (Nat.not_lt_zero j)⟩ (Wk.temps ?_) ?_
 ·(simp only[qy,beH,go_sem,qh,qd,qa,qg];try (repeat' first|(with_reducible apply aiA)|(apply qi;omega)|(apply qe;rfl)|exact qj))
 rintro⟨i,O⟩ ⟨i1,i2,il,i3⟩ K hK;simp only at i1 i2 il i3 hK;have i2': ∀m,qz (O::m) 0=true:=fun _=>i2
 by_cases hi:i<l.length
 ·have k1:((i:Int)<l.length)=True:=eq_true (by omega);have hno:unB x (beH l i) (l.getD i default)=false→R=false:=fun hx=>by
   rw[hR];unfold qi0;rw[qv.2 ⟨i,hi,by rw[hx];rfl⟩];rfl
  have hS:unB x (beH l i) (l.getD i default)=true→ ∀j,j<i+1→unB x (beH l j) (l.getD j default)=true:=fun hx j hj=>by
   by_cases e:j=i
   ·subst e;exact hx
   ·exact i3 j (by omega)
  have hbs:=qnS l i;have zrd:qi1 (l.getD i default).rds:=⟨hu.rd i,hu.sr i,hu.wd i⟩
  obtain⟨u,hux⟩: ∃u,u=l.getD i default:=⟨_,rfl⟩
  have eu:=hux.symm;rw[eu]at hno hS hbs zrd;obtain⟨b,hb⟩: ∃b,b=beH l i:=⟨_,rfl⟩
  have eb:=hb.symm;rw[eb]at hno hS;have hB:unB x b u= !(decide (u.frm≤b)||(decide (u.frm<0)||(decide (u.to≤u.frm)||(decide ((x.col.length:Int)<u.to)|| !decide (u.rds=qdj x u.frm.toNat u.to.toNat))))):=rfl
  by_cases g1:u.frm≤b
  ·have q1:(u.frm≤b)=True:=eq_true g1;rw[hno (by rw[hB,decide_eq_true g1];rfl)];simp (disch:=omega) only[qy,unC,coC,qr,zx,k1,eu,eb,i2',q1,go_sem]
   repeat' first
    |(refine qk ( zx []) ?_;simp (disch:=omega) only[zx,go_sem])
    |(apply qb;exact rvk;simp only[go_sem];exact qj)
    |with_reducible apply aiA
   all_goals try exact clz
  have q1:(u.frm≤b)=False:=eq_false g1
  by_cases g2:u.frm<0
  ·have q2:(u.frm<0)=True:=eq_true g2;rw[hno (by rw[hB,decide_eq_true g2];simp)];simp (disch:=omega) only[qy,unC,coC,qr,zx,k1,eu,eb,i2',q1,q2,go_sem]
   repeat' first
    |(refine qk ( zx []) ?_;simp (disch:=omega) only[zx,go_sem])
    |(apply qb;exact rvk;simp only[go_sem];exact qj)
    |with_reducible apply aiA
   all_goals try exact clz
  have q2:(u.frm<0)=False:=eq_false g2
  by_cases g3:u.to≤u.frm
  ·have q3:(u.to≤u.frm)=True:=eq_true g3;rw[hno (by rw[hB,decide_eq_true g3];simp)];simp (disch:=omega) only[qy,unC,coC,qr,zx,k1,eu,eb,i2',q1,q2,q3,go_sem]
   repeat' first
    |(refine qk ( zx []) ?_;simp (disch:=omega) only[zx,go_sem])
    |(apply qb;exact rvk;simp only[go_sem];exact qj)
    |with_reducible apply aiA
   all_goals try exact clz
  have q3:(u.to≤u.frm)=False:=eq_false g3
  by_cases g4:(x.col.length:Int)<u.to
  ·have q4:((x.col.length:Int)<u.to)=True:=eq_true g4;rw[hno (by rw[hB,decide_eq_true g4];simp)];simp (disch:=omega) only[qy,unC,coC,qr,zx,k1,eu,eb,i2',q1,q2,q3,q4,go_sem]
   repeat' first
    |(refine qk ( zx []) ?_;simp (disch:=omega) only[zx,go_sem])
    |(apply qb;exact rvk;simp only[go_sem];exact qj)
    |with_reducible apply aiA
   all_goals try exact clz
  have q4:((x.col.length:Int)<u.to)=False:=eq_false g4;obtain⟨f,hf⟩: ∃f:Nat,u.frm=(f:Int):=⟨u.frm.toNat,by omega⟩
  obtain⟨t,ht⟩: ∃t:Nat,u.to=(t:Int):=⟨u.to.toNat,by omega⟩
  have c48:=fun h=>qDf x f t h ho (by omega) hn
  have zF:qi1 (qdj x f t):=qmd x f (t-f) (by omega) x.sig.length (by omega);have c49:=fun h=>qDl u.rds (qdj x f t) h zrd zF
  have eft:qdj x u.frm.toNat u.to.toNat=qdj x f t:=by rw[hf,ht,Int.toNat_natCast,Int.toNat_natCast]
  rw[decide_eq_false g1,decide_eq_false g2,decide_eq_false g3,decide_eq_false g4,eft]at hB;obtain⟨F,hF⟩: ∃F,F=qdj x f t:=⟨_,rfl⟩
  rw[←hF]at hB;simp only[←hF]at c48 c49;obtain⟨c,hc⟩: ∃c,c=decide (u.rds=F):=⟨_,rfl⟩
  rw[←hc]at hB;simp only[←hc]at c49;rw[hf]at q1 q2 q3;rw[ht]at q3 q4;unfold coC qr at c48;unfold zx at c48 c49;cases c with
  |false=>
   rw[hno hB];simp (disch:=omega) only[qy,unC,coC,qr,zx,k1,eu,eb,i2',q1,q2,q3,q4,hf,ht,go_sem]
   repeat' first
    |((first|refine cG (fun e=>c48 _) ?_ ?_|refine cG (fun e=>c49 _) ?_ ?_);exact flk;simp (disch:=omega) only[go_sem])
    |(apply qb;exact rvk;simp only[go_sem];exact qj)
    |with_reducible apply aiA
   all_goals try exact clz
  |true=>
   simp (disch:=omega) only[qy,unC,coC,qr,zx,k1,eu,eb,i2',q1,q2,q3,q4,hf,ht,go_sem]
   repeat' first
    |((first|refine cG (fun e=>c48 _) ?_ ?_|refine cG (fun e=>c49 _) ?_ ?_);exact flk;simp (disch:=omega) only[go_sem])
    |with_reducible apply aiA
   all_goals try exact clz
   refine hK _ _ (i+1,.mem (qq (some O)+1) 83 (unC u)) ⟨hi,rfl,fun n=>qtA u n _ _,hS hB⟩ (by simp only;omega) ?_;simp only[hbs,ht,unC,hf];refine Wk.temps ?_
   (simp only[qy,go_sem,qh,qd,qa,qg];try (repeat' first|(with_reducible apply aiA)|(apply qi;omega)|(apply qe;rfl)|exact qj))
 have k1:((i:Int)<l.length)=False:=eq_false (by omega);obtain rfl:i=l.length:=by omega
 have hun:qi0 x l=true:=by
  unfold qi0;rw[qn.2 fun j hj=>by rw[i3 j hj];rfl];rfl
 rw[hun,Bool.true_and]at hR;have hcv:=qsP hun;clear hK;have c56:=fun h=>qDj x h
 unfold coC qr at c56;simp (disch:=omega) only[coC,qr,k1,go_sem]
 repeat' first
  |(refine cA (c56 _) ?_ ?_;exact flk;simp (disch:=omega) only[go_sem])
 obtain⟨rs,hrs⟩: ∃rs,rs=qfR (cmB x) x.col.length:=⟨_,rfl⟩
 have hrl:=qmj x;have hrg:=fun i hi=>qud (x:=x) (i:=i) hi
 rw[←hrs]at hrl hcv;simp only[←hrs]at hrg;refine qaU (xs:=rnX x) (itR x ho hn) (que x)
  (S:=fun i hh=>(∃O8 O9,qz [O8] 0=true∧qz [O9] 0=true∧(∀n,qaj n O8)∧(∀n,qaj n O9)∧hh=h++ [.mem 1 26 (coC x),.mem 1 27 [qy l],.mem 1 4 [.bool false],O,O8,O9])∧ ∀j,j<i→rnB l (rs.getD j (0,0))=true)
  (E:=fun s hh=>s= .ret∧R=false∧ ∃O8 O9,(∀n,qaj n O8)∧(∀n,qaj n O9)∧hh=h++ [.mem 1 26 (coC x),.mem 1 27 [qy l],.mem 1 4 [.bool false],O,O8,O9]) ?_ ?_ ?_ ?_ ?_ ?_ ?_
 ·rintro i hh ⟨⟨O8,O9,_,_,l8,l9,rfl⟩,_⟩;refine LowI.app rfl (fun o ho=> ?_);simp only[List.mem_cons,List.not_mem_nil,or_false]at ho;rcases ho with rfl|rfl|rfl|rfl|rfl|rfl
  ·left;simp[coC,qr]
  ·left;simp
  ·left;simp
  ·left;simp
  ·right;exact⟨l8 _,l8 _⟩
  ·right;exact⟨l9 _,l9 _⟩
 ·rintro s hh ⟨_,_,O8,O9,l8,l9,rfl⟩;refine LowI.app rfl (fun o ho=> ?_);simp only[List.mem_cons,List.not_mem_nil,or_false]at ho;rcases ho with rfl|rfl|rfl|rfl|rfl|rfl
  ·left;simp[coC,qr]
  ·left;simp
  ·left;simp
  ·left;simp
  ·right;exact⟨l8 _,l8 _⟩
  ·right;exact⟨l9 _,l9 _⟩
 ·exact⟨⟨.emp 0,.emp 0,rfl,rfl,fun _=>trivial,fun _=>trivial,rfl⟩,fun j hj=>absurd hj (Nat.not_lt_zero j)⟩
 ·have lu: ∀n,ji n (qy l)=true:=fun _=>rfl
  have lt: ∀n,ji n (qo x.tok)=true:=fun _=>rfl
  simp[ji,ji.lowVs,lu,lt,qdG]
  try omega
 ·rintro i hh tl LI TS hi ⟨⟨O8,O9,s8,s9,l8,l9,rfl⟩,hj⟩ hlen K K2 hK hN hR' hX;rw[hrg i hi];rw[hrl]at hi;obtain⟨⟨f,t⟩,hr⟩: ∃r,r=rs.getD i (0,0):=⟨_,rfl⟩
  have er:=hr.symm;rw[er];have s8': ∀m,qz (O8::m) 0=true:=fun _=>s8
  have s9': ∀m,qz (O9::m) 0=true:=fun _=>s9
  simp only[qb6];simp (disch:=omega) only[List.append_assoc,coC,s8',s9',go_sem];refine hK _ _ (h++ [.mem 1 26 (coC x),.mem 1 27 [qy l],.mem 1 4 [.bool false],O,.mem (qq (some O8)+1) 3 [.int .i64 (f:Int)],.mem (qq (some O9)+1) 3 [.int .i64 (t:Int)]]) (by simp[coC]) (by simp) ?_;simp (disch:=omega) only[List.append_assoc,go_sem]
  repeat' first
   |with_reducible apply aiA
  all_goals try exact clz
  refine cA (qCD l f t (h.length+4) _ (h.length+5) _ _ ?ka ?kb hl) (by exact flk) ?_
  case ka=>simp only[go_sem]
  case kb=>simp only[go_sem]
  have l8': ∀n,qaj n (.mem (qq (some O8)+1) 3 [.int .i64 (f:Int)]):=fun n c hc=>by simp at hc;subst hc;rfl
  have l9': ∀n,qaj n (.mem (qq (some O9)+1) 3 [.int .i64 (t:Int)]):=fun n c hc=>by simp at hc;subst hc;rfl
  cases hb:rnB l (f,t)with
  |true=>
   simp (disch:=omega) only[go_sem];refine hN _ _ (h++ [.mem 1 26 (coC x),.mem 1 27 [qy l],.mem 1 4 [.bool false],O,.mem (qq (some O8)+1) 3 [.int .i64 (f:Int)],.mem (qq (some O9)+1) 3 [.int .i64 (t:Int)]]) (by simp[coC]) (by simp) ⟨⟨_,_,rfl,rfl,l8',l9',rfl⟩,fun j hj'=> ?_⟩
   by_cases e:j=i
   ·subst e;rw[er];exact hb
   ·exact hj j (by omega)
  |false=>
   have hRf:R=false:=by
    rw[hR];cases hc:cvA x l with
    |false=>rfl
    |true=>
     have h2:=List.all_eq_true.1 (hcv.2 hc) (f,t) (by rw[hr,gdqA,zA hi];exact List.getElem_mem hi);rw[hb]at h2;cases h2
   simp (disch:=omega) only[go_sem];refine hR' _ _ (h++ [.mem 1 26 (coC x),.mem 1 27 [qy l],.mem 1 4 [.bool false],O,.mem (qq (some O8)+1) 3 [.int .i64 (f:Int)],.mem (qq (some O9)+1) 3 [.int .i64 (t:Int)]]) (by simp[coC]) (by simp) ⟨rfl,hRf,_,_,l8',l9',rfl⟩
 ·rintro hh ⟨⟨O8,O9,s8,s9,l8,l9,rfl⟩,hj⟩;have hRt:R=true:=by
   rw[hR];refine hcv.1 (List.all_eq_true.2 fun r hr=> ?_);obtain⟨j,hj1,rfl⟩:=List.getElem_of_mem hr
   have:=hj j (by rw[hrl];exact hj1)
   rw[gdqA,zA hj1]at this;exact this
  rw[hRt];simp (disch:=omega) only[go_sem]
  repeat' first
   |(apply qb;exact rvk;simp only[go_sem];exact qj)
 ·rintro e hh ⟨rfl,hRf,O8,O9,l8,l9,rfl⟩;rw[hRf];simp (disch:=omega) only[go_sem]
  repeat' first
   |(apply qb;exact rvk;simp only[go_sem];exact qj)
theorem vaP(x:Co)(l:List Un)(h:List AObj)(hz:qnz x)(hu:qrB l)(hp:qaz SG h):ACalls Tryz.prog 111 [.agg (coC x),qy l] h (.int .i64 (vaE x l)) h:=by
 have c1:=fun l'=>coP x (h++l') hz (hp.app l')
 unfold vaE
 by_cases g:coE x=0
 case neg=>
  have k1:(coE x=0)=False:=eq_false g;rw[if_pos g];obtain⟨e,he⟩: ∃e,e=coE x:=⟨_,rfl⟩
  rw[←he]at c1 k1;unfold coC at c1;refine acO qqG ?_;simp (disch:=omega) only[qrT,coC,go_sem]
  repeat' first
   |(refine cA (c1 _) ?_ ?_;exact flk;simp (disch:=omega) only[k1,go_sem])
   |(apply qb;exact rvk;simp only[go_sem];exact qj)
 rw[if_neg (fun hc=>hc g)];have c2:=fun h=>qDi x l h (qc6 g) hz.cl hu
 rw[g]at c1;unfold coC at c1 c2;cases g2:rgB x l<;>rw[g2]at c2
 all_goals
  refine acO qqG ?_;simp (disch:=omega) only[qrT,coC,go_sem]
  repeat' first
   |((first|refine cA (c1 _) ?_ ?_|refine cA (c2 _) ?_ ?_);exact flk;simp (disch:=omega) only[go_sem])
   |(apply qb;exact rvk;simp only[go_sem];exact qj)
end RC
end
section
open Go Go.Proofs AF
def qtt:List Nat:= [1000072,1000073,1000075,1000076,1000077,1000078,1000079]
def qAd:C:=
 ((C.ops [O1 3 (.box 0 26) 0,MC 6 (i6 0)]).seq (((C.ops [O1 18 (.load (some 4)) 3,MV 19 1,O2 20 (.call 111 true) 18 19,MV 7 20]).seq ((C.ops [MV 21 7,BC 22 .neq 21 (i6 0)]).seq
 (C.cond (.t 22) ((C.ops [MV 23 7,MV 6 23]).seq C.ret) C.skip))).seq ((C.ops [O1 24 (.fldA 3) 3,LD 25 24,O1 26 .len 25,⟨some 27,none,.mkslc 1 1 3 [i6 0] 8,[.t 26,.t 26]⟩,MV
 8 27]).seq ((C.ops [⟨some 9,none,.alloc 2 64 [.str [],i6 0,i6 0,i6 0,.bool false,.bool false,.str []],[]⟩]).seq (((C.ops [MV 28 2,O1 29 .len 28,MC 30 (i6 0)]).seq
 (C.block 0 ((C.ops [BI 31 .lss 30 29]).seq ((C.cond (.t 31) C.skip (C.exit 0)).seq ((C.block 1 ((C.ops [MV 32 30,O2 33 (.idxA 7) 28 30,O1 34 (.load (some 7)) 33,⟨some 11,none,
 .alloc 3 64 [.str [],i6 0,i6 0,i6 0,.bool false,.bool false,.str []],[]⟩,MV 10 32,ST 7 11 34]).seq (((C.ops [O1 35 (.load (some 4)) 3,MV 36 1,O1 37 (.load (some 7)) 11,
 O1 38 (.load (some 7)) 9,MV 39 10,BC 40 .eql 39 (i6 0),ON 41 (.call 112 true) [.t 35,.t 36,.t 37,.t 38,.t 40],MV 12 41]).seq ((C.ops [MV 42 12,BC 43 .neq 42 (i6 0)]).seq
 (C.cond (.t 43) ((C.ops [MV 44 12,MV 6 44]).seq C.ret) C.skip))).seq ((C.ops [O1 45 (.load (some 7)) 11,ST 7 9 45]).seq (C.ops [MV 46 8,O1 47 (.fldA 1) 11,LD 48 47,O2 49
 (.idxA 1) 46 48,LD 50 49,BC 51 .add 50 (i6 1),O2 52 (.idxA 1) 46 48,ST 1 52 51]))))).seq (C.ops [BC 53 .add 30 (i6 1),MV 30 53])))).loop)).seq (((C.ops [O1 54 (.fldA 3) 3,LD
 55 54,O1 56 .len 55,MC 57 (i6 0)]).seq (C.block 2 ((C.ops [BI 58 .lss 57 56]).seq ((C.cond (.t 58) C.skip (C.exit 2)).seq ((C.block 3 ((C.ops [MV 59 57,O2 60 (.idxA 1) 55 57,LD
 61 60,⟨some 13,none,.alloc 4 3 [i6 0],[]⟩,ST 1 13 59,MV 14 61]).seq (((C.ops [MV 63 1,LD 64 13,O2 65 (.call 113 true) 63 64,MV 62 65,O1 66 (.ext 0) 62,O1 67 (.ext 1) 62,
 MV 15 66,MV 16 67]).seq ((C.ops [MV 68 15,BC 69 .geq 68 (i6 0)]).seq (C.cond (.t 69) (C.exit 3) C.skip))).seq ((C.draw (DT.one ⟨some 74,none,.mv,[.t 14]⟩ (DT.one ⟨some 75,
 none,.idxI 1,[.t 74,.c (i6 0)]⟩ (DT.one ⟨some 76,none,.loadI none,[.t 75]⟩ ((DT.one ⟨some 70,none,.fldA 2,[.t 3]⟩ ((DT.one ⟨some 71,none,.load none,[.t 70]⟩ (DT.one
 ⟨some 72,none,.idxI 1,[.t 71,.c (i6 0)]⟩ (DT.one ⟨some 73,none,.loadI none,[.t 72]⟩ (DT.one ⟨some 77,none,.idxI 6,[.t 73,.t 76]⟩ (DT.one ⟨some 78,none,.fldI 0,[.t
 77]⟩ (DT.one ⟨some 79,none,.loadI none,[.t 78]⟩ (DT.one ⟨some 17,none,.alloc 5 9 [.str []],[]⟩ (DT.one ⟨none,none,.store 1,[.t 17,.t 79]⟩ DT.nil)))))))).two (DT.one ⟨some
 17,none,.alloc 5 9 [.str []],[]⟩ (DT.one ⟨some 71,none,.load none,[.t 70]⟩ (DT.one ⟨some 72,none,.idxI 1,[.t 71,.c (i6 0)]⟩ (DT.one ⟨some 73,none,.loadI none,[.t 72]⟩
 (DT.one ⟨some 77,none,.idxI 6,[.t 73,.t 76]⟩ (DT.one ⟨some 78,none,.fldI 0,[.t 77]⟩ (DT.one ⟨some 79,none,.loadI none,[.t 78]⟩ (DT.one ⟨none,none,.store 1,[.t 17,.t
 79]⟩ DT.nil)))))))))).two (DT.one ⟨some 17,none,.alloc 5 9 [.str []],[]⟩ (DT.one ⟨some 70,none,.fldA 2,[.t 3]⟩ (DT.one ⟨some 71,none,.load none,[.t 70]⟩ (DT.one ⟨some 72,
 none,.idxI 1,[.t 71,.c (i6 0)]⟩ (DT.one ⟨some 73,none,.loadI none,[.t 72]⟩ (DT.one ⟨some 77,none,.idxI 6,[.t 73,.t 76]⟩ (DT.one ⟨some 78,none,.fldI 0,[.t 77]⟩ (DT.one
 ⟨some 79,none,.loadI none,[.t 78]⟩ (DT.one ⟨none,none,.store 1,[.t 17,.t 79]⟩ DT.nil)))))))))))))).seq ((C.ops [MV 80 8,LD 81 13,O2 82 (.idxA 1) 80 81,LD 83 82,BC 84
 .neq 83 (i6 1),MV 85 84,MG 86 85 false 2,P2 87 85 false (.mkfn (Fn.func 114) 0) 13 17,P2 88 85 false (.call 92 true) 86 87,P1 89 85 false (.un UnOp.not) 88,PT 90 85 89]).seq
 (C.cond (.t 90) ((C.ops [MC 6 (i6 9)]).seq C.ret) C.skip)))))).seq (C.ops [BC 91 .add 57 (i6 1),MV 57 91])))).loop)).seq ((C.ops [MC 6 (i6 0)]).seq
 C.ret)))))))
theorem qx1:qG Tryz.prog 38 92 6 [RV.tmp 6] qAd:=fi Tryz.f38 [3,27,9,11,13,17] qtt []
end
section
open Go Go.Proofs AF HY LN
namespace RC
theorem pc1(w:Wd)(c:Int)(s:Str)(h:List AObj):ACalls Tryz.prog 114 [.agg (wdC w),.ip [.int .i64 c],.ip [.str s]] h (.bool (decide (w.col=c)&&decide (w.text=s))) h:=by
 by_cases g:w.col=c
 ·have k1:(w.col=c)=True:=eq_true g;rw[decide_eq_true g,Bool.true_and];refine acO qqI ?_;simp (disch:=omega) only[qrV,wdC,k1,go_sem]
  repeat' first
   |(apply qb;exact rvk;simp only[go_sem];exact qj)
   |with_reducible apply aiA
  all_goals try exact clz
 ·have k1:(w.col=c)=False:=eq_false g;rw[decide_eq_false g,Bool.false_and];refine acO qqI ?_;simp (disch:=omega) only[qrV,wdC,k1,go_sem]
  repeat' first
   |(apply qb;exact rvk;simp only[go_sem];exact qj)
   |with_reducible apply aiA
  all_goals try exact clz
theorem qCC(b:List Wd)(c:Int)(s:Str)(k v k2 v2:Nat)(h:List AObj)(hk:qH k h=some (.mem v 3 [.int .i64 c]))(hk2:qH k2 h=some (.mem v2 9 [.str s]))(hn:b.length≤1000000000):
  ACalls Tryz.prog 92 [qU b,.fn (.func 114) [] [.op k v 0,.op k2 v2 0]] h (.bool (qY (fun i=>decide ((b.getD i default).col=c)&&decide ((b.getD i default).text=s)) b.length)) h:=by
 have hc:=zj hk;have hc2:=zj hk2;unfold qU;refine qnC qth ⟨rfl,rfl⟩ ⟨rfl,rfl⟩ (qb3 qk3 b.length (fun j=>wdC (b.getD j default)) (fun j=> .agg (wdC (b.getD j default))) _ [] [.op k v 0,.op k2 v2 0] _ h (fun i _=>⟨rfl,by simp[jn,wdC],rfl,rfl,rfl⟩) (fun i _=> ?_) (by omega));refine ACalls.borrow ?_ rfl;have e:([AV.agg (wdC (b.getD i default))]++ [AV.op k v 0,AV.op k2 v2 0]).map (rei (fun _=>true) h 8)= [.agg (wdC (b.getD i default)),.ip [.int .i64 c],.ip [.str s]]:=by
  simp only[List.cons_append,List.nil_append,List.map_cons,List.map_nil,rei_op,if_true,hc,hc2,ipOf_some,List.drop_zero,rei_agg];rfl
 rw[List.nil_append,e];exact pc1 _ c s _
theorem quM{x:Co}{l:List Un}{w bef:Wd}{first:Bool}(h:wdE x l w bef first=0):0≤w.col∧w.col<x.col.length:=by
 unfold wdE at h;split at h
 ·cases h
 split at h
 ·cases h
 ·omega
theorem qlQ{x:Co}{l:List Un}(ho:CoOk x)(hv:cvA x l=true){c:Nat}(hc:c<x.col.length)(hf:fnU l c<0):0≤(x.col.getD c []).getD 0 0∧(x.col.getD c []).getD 0 0<((x.tok.getD 0 []).length:Int):=by
 unfold cvA at hv;rw[Bool.not_eq_true',qn]at hv;have h1:=hv c hc;have h2:cvB l c=false:=by
  cases e:cvB l c with
  |false=>rfl
  |true=>
   unfold cvB at e;obtain⟨i,hi,hp⟩:=qv.1 e;rw[Bool.and_eq_true,decide_eq_true_iff,decide_eq_true_iff]at hp;exact absurd hp (qq9 hf hi)
 rw[h2,Bool.not_false,Bool.true_and,Bool.not_eq_false']at h1;unfold cmB at h1;rw[Bool.not_eq_true',qn]at h1;have h3:=h1 0 ho.sg.1;rw[Bool.or_eq_false_iff]at h3;have h4:clT x c 0≠none:=of_decide_eq_false h3.1;unfold clT at h4;split at h4
 ·exact absurd rfl h4
 ·rename_i g;rcases ho.ce c hc 0 ho.sg.1 with e|⟨_,e⟩
  ·omega
  ·exact⟨by omega,e⟩
def cwA(b:List Wd)(i k:Nat):AV:= .int .i64 (cW b (k:Int) i:Int)
theorem qws(b:List Wd)(c:Int): ∀i,cW b c i≤i:=by
 intro i
 induction i with
 |zero=>exact Nat.le_refl _
 |succ i ih=>unfold cW;split<;>omega
theorem qok{b:List Wd}{i u n:Nat}(hu:u<n)(h:(b.getD i default).col=(u:Int)):List.take u (gC (cwA b i) n)++ [.int .i64 ((cW b (u:Int) i:Int)+1)]++List.drop (u+1) (gC (cwA b i) n)=gC (cwA b (i+1)) n:=by
 rw[qrb _ hu];refine qaD fun k hk=> ?_
 unfold cwA;have e:cW b (k:Int) (i+1)=cW b (k:Int) i+if (b.getD i default).col=(k:Int) then 1 else 0:=rfl
 rw[e]
 by_cases g:k=u
 ·subst g;rw[if_pos rfl,if_pos h];rfl
 ·rw[if_neg g,if_neg (by rw[h];omega)];rfl
theorem pvP(x:Co)(l:List Un)(b:List Wd)(h:List AObj)(hz:qnz x)(hu:qrB l)(hb:b.length≤1000000000)(ht: ∀i,(b.getD i default).text.length≤1000000000)(hp:qaz SG h):
  ACalls Tryz.prog 38 [.agg (coC x),qy l,qU b] h (.int .i64 (pvE x l b)) h:=by
 have c1:=fun l'=>vaP x l (h++l') hz hu (hp.app l')
 obtain⟨R,hR⟩: ∃R,R=pvE x l b:=⟨_,rfl⟩
 rw[←hR];unfold pvE at hR
 by_cases g:vaE x l=0
 case neg=>
  have k1:(vaE x l=0)=False:=eq_false g;rw[if_pos g]at hR;rw[hR];obtain⟨e,he⟩: ∃e,e=vaE x l:=⟨_,rfl⟩
  rw[←he]at c1 k1 ⊢;unfold coC at c1;refine acO qx1 ?_;simp (disch:=omega) only[qAd,coC,go_sem]
  repeat' first
   |(refine cA (c1 _) ?_ ?_;exact flk;simp (disch:=omega) only[k1,go_sem])
   |(apply qb;exact rvk;simp only[go_sem];exact qj)
 rw[if_neg (fun hc=>hc g)]at hR;rw[g]at c1;unfold coC qr at c1;have hv:coE x=0∧qi0 x l=true∧cvA x l=true:=by
  unfold vaE at g;split at g
  ·cases g
  rename_i g1;split at g
  ·cases g
  rename_i g2;have g2:rgB x l=true:=by simpa using g2
  unfold rgB at g2;rw[Bool.and_eq_true]at g2;exact⟨Classical.not_not.1 g1,g2⟩
 have ho:=qc6 hv.1;have hcl:=hz.cl;have k0:(0≤(x.col.length:Int))=True:=eq_true (by omega);have k1:((x.col.length:Int)≤9223372036854775807)=True:=eq_true (by omega);refine acO qx1 ?_;simp (disch:=omega) only[qAd,coC,qr,qU,go_sem]
 repeat' first
  |(refine cA (c1 _) ?_ ?_;exact flk;simp (disch:=omega) only[k0,go_sem])
  |with_reducible apply aiA
 all_goals try exact clz
 all_goals try rw[Int.toNat_natCast]
 rw[qfA];have e0:gC (fun _=>AV.int .i64 0) x.col.length=gC (cwA b 0) x.col.length:=qaD fun k _=>rfl
 rw[e0];refine qm (T:=fun i:Nat×Nat×AObj=>qI 92 [(1,qy l),(2,qU b),(3,.op h.length 1 0),(8,.osl (h.length+1) 1 1 0 x.col.length),(9,.op (h.length+2) i.2.1 0),(28,qU b),(29,.int .i64 b.length),(30,.int .i64 i.1)])
  (H:=fun i=>h++ [.mem 1 26 (coC x),.mem 1 3 (gC (cwA b i.1) x.col.length),.mem i.2.1 64 (wdC (qgt b i.1)),i.2.2,.emp 0,.emp 0])
  (inv:=fun i=>i.1≤b.length∧qz [i.2.2] 0=true∧ ∀j,j<i.1→qnw x l b j=0) (m:=fun i=>b.length-i.1) (0,1,.emp 0) ⟨Nat.zero_le _,rfl,fun j hj=>absurd hj (Nat.not_lt_zero j)⟩ (Wk.temps ?_) ?_
 ·(simp only[qU,qy,go_sem,qh,qd,qa,qg];try (repeat' first|(with_reducible apply aiA)|(apply qi;omega)|(apply qe;rfl)|exact qj))
 rintro⟨i,v,O⟩ ⟨i1,i2,i3⟩ K hK;simp only at i1 i2 i3 hK;have i2': ∀m,qz (O::m) 0=true:=fun _=>i2
 by_cases hi:i<b.length
 ·have k2:((i:Int)<b.length)=True:=eq_true (by omega);have hE:=zr (f:=qnw x l b) hi i3;have hS:qnw x l b i=0→ ∀j,j<i+1→qnw x l b j=0:=fun hx j hj=>by
   by_cases e:j=i
   ·subst e;exact hx
   ·exact i3 j (by omega)
  have c2:=fun h=>qDM x l (b.getD i default) (qgt b i) (decide (i=0)) h hu.n hcl (ht i)
  have hw:qnw x l b i=wdE x l (b.getD i default) (qgt b i) (decide (i=0)):=rfl;have hrg:= @quM x l (b.getD i default) (qgt b i) (decide (i=0));have hbn:qgt b (i+1)=b.getD i default:=by unfold qgt;rw[if_neg (by omega),Nat.add_sub_cancel]
  have hcs:=fun u=> @qok b i u x.col.length
  have hle:=fun c=>qws b c i
  have ei:decide ((i:Int)=0)=decide (i=0):=decide_eq_decide.2 (by omega);obtain⟨w,hwx⟩: ∃w,w=b.getD i default:=⟨_,rfl⟩
  have ew:=hwx.symm;obtain⟨w0,hw0⟩: ∃w0,w0=qgt b i:=⟨_,rfl⟩
  have ew0:=hw0.symm;simp only[ew]at c2 hw hrg hbn hcs;simp only[ew0]at c2 hw hrg;rw[←hw]at hrg;simp only[←hw]at c2;obtain⟨e,he⟩: ∃e,e=qnw x l b i:=⟨_,rfl⟩
  rw[←he]at hE hS hrg;simp only[←he]at c2;obtain⟨fb,hfb⟩: ∃fb,fb=decide (i=0):=⟨_,rfl⟩
  rw[←hfb]at ei;simp only[←hfb]at c2;unfold coC qr wdC at c2
  by_cases g1:e=0
  case neg=>
   have k3:(e=0)=False:=eq_false g1;have hV:R=e:=by rw[hR,if_pos (by rw[hE g1];exact g1),hE g1]
   rw[hV];simp (disch:=omega) only[coC,qr,qU,wdC,k2,ew,ew0,ei,i2',go_sem]
   repeat' first
    |(refine cA (c2 _) ?_ ?_;exact flk;simp (disch:=omega) only[k3,go_sem])
    |(apply qb;exact rvk;simp only[go_sem];exact qj)
    |with_reducible apply aiA
   all_goals try exact clz
  have k3:(e=0)=True:=eq_true g1;obtain⟨r1,r2⟩:=hrg g1;obtain⟨u,hu'⟩: ∃u:Nat,w.col=(u:Int):=⟨w.col.toNat,by omega⟩
  simp only[hu']at c2;have un:u<x.col.length:=by omega
  have t2:(0≤(u:Int))=True:=eq_true (by omega);have t3:((u:Int)<x.col.length)=True:=eq_true (by omega);have t4:(u<x.col.length)=True:=eq_true un;have t5:(u+1≤x.col.length)=True:=eq_true un;have gl:=ky (cwA b i) x.col.length;have gg:=qa6 (g:=cwA b i) un;have hst:=hcs u un hu';have hle:=hle (u:Int);have hcw:cwA b i u= .int .i64 (cW b (u:Int) i:Int):=rfl;rw[hcw]at gg;obtain⟨q,hq⟩: ∃q,q=cW b (u:Int) i:=⟨_,rfl⟩
  rw[←hq]at gg hst hle;have b2:((q:Int)+1≤9223372036854775807)=True:=eq_true (by omega);have b3:(-9223372036854775808≤(q:Int)+1)=True:=eq_true (by omega);simp (disch:=omega) only[coC,qr,qU,wdC,k2,ew,ew0,ei,i2',hu',Nat.zero_add,Option.isSome_some,go_sem]
  repeat' first
   |(refine cA (c2 _) ?_ ?_;exact flk;simp (disch:=omega) only[k3,t2,t3,t4,t5,gl,gg,hst,Nat.mul_one,Nat.zero_add,Option.isSome_some,go_sem])
   |with_reducible apply aiA
  all_goals try exact clz
  try rw[hst]
  refine hK _ _ (i+1,v,.mem (qq (some O)+1) 64 (wdC w)) ⟨hi,rfl,hS g1⟩ (by simp only;omega) ?_;simp only[hbn,wdC,hu'];refine Wk.temps ?_
  (simp only[qU,qy,go_sem,qh,qd,qa,qg];try (repeat' first|(with_reducible apply aiA)|(apply qi;omega)|(apply qe;rfl)|exact qj))
 have k2:((i:Int)<b.length)=False:=eq_false (by omega);obtain rfl:i=b.length:=by omega
 have hn0:=qP (f:=qnw x l b) (fun j (hj:j<b.length)=>i3 j hj);rw[if_neg (fun hc=>hc hn0)]at hR;clear hK;obtain⟨w0,hw0⟩: ∃w0,w0=qgt b b.length:=⟨_,rfl⟩
 have ew0:=hw0.symm;rw[ew0];simp (disch:=omega) only[coC,qr,qU,k2,i2',go_sem]
 repeat' first
  |with_reducible apply aiA
 all_goals try exact clz
 obtain⟨cb,hcb⟩: ∃f:Nat→Int,f=qz1 x l b:=⟨_,rfl⟩
 rw[←hcb]at hR;have z0:((0:Nat):Int)=0:=rfl;have hto:0<x.tok.length:=by have:=ho.tn;have:=ho.sg;omega
 refine qm (T:=fun i:Nat×AObj×AObj=>qI 92 [(1,qy l),(2,qU b),(3,.op h.length 1 0),(8,.osl (h.length+1) 1 1 0 x.col.length),(55,qr x.col),(56,.int .i64 x.col.length),(57,.int .i64 i.1)])
  (H:=fun i=>h++ [.mem 1 26 (coC x),.mem 1 3 (gC (cwA b b.length) x.col.length),.mem v 64 (wdC w0),O,i.2.1,i.2.2])
  (inv:=fun i=>i.1≤x.col.length∧qz [i.2.1] 0=true∧qz [i.2.2] 0=true∧ ∀j,j<i.1→cb j=0) (m:=fun i=>x.col.length-i.1) (0,.emp 0,.emp 0) ⟨Nat.zero_le _,rfl,rfl,fun j hj=>absurd hj (Nat.not_lt_zero j)⟩ (Wk.temps ?_) ?_
 ·(simp only[qU,qy,qr,go_sem,qh,qd,qa,qg];try (repeat' first|(with_reducible apply aiA)|(apply qi;omega)|(apply qe;rfl)|exact qj))
 rintro⟨i,O1,O2⟩ ⟨i1,j1,j2,j3⟩ K hK;simp only at i1 j1 j2 j3 hK;have j1': ∀m,qz (O1::m) 0=true:=fun _=>j1
 have j2': ∀m,qz (O2::m) 0=true:=fun _=>j2
 by_cases hi:i<x.col.length
 ·have k3:((i:Int)<x.col.length)=True:=eq_true (by omega);have t2:(0≤(i:Int))=True:=eq_true (by omega);have hE:=zr (f:=cb) hi j3;have hS:cb i=0→ ∀j,j<i+1→cb j=0:=fun hx j hj=>by
   by_cases e:j=i
   ·subst e;exact hx
   ·exact j3 j (by omega)
  have hci:cb i=if 0≤fnU l (i:Int) then 0 else if ccB x b i=true then 0 else 9:=by rw[hcb];rfl
  have hcc:ccB x b i=(decide (cW b (i:Int) b.length=1)&&qY (fun j=>decide ((b.getD j default).col=(i:Int))&&decide ((b.getD j default).text=txA x i)) b.length):=rfl;have hto2:= @qlQ x l ho hv.2.2 i hi;have eF:fnR l (i:Int)=fnU l (i:Int):=if_neg (by omega);have eE:fnE (i:Int)=0:=if_neg (by omega);have c3:=fun h=>qB9 l (i:Int) h hu.n
  simp only[eF,eE]at c3;have htx:txA x i=((x.tok.getD 0 []).getD ((x.col.getD i []).getD 0 0).toNat default).text:=rfl;have hcl0:=ho.cl i hi;obtain⟨c,hcx⟩: ∃c,c=x.col.getD i []:=⟨_,rfl⟩
  have ec:=hcx.symm;rw[ec]at hto2 htx hcl0;obtain⟨t,htt⟩: ∃t,t=c.getD 0 0:=⟨_,rfl⟩
  have et:=htt.symm;rw[et]at hto2 htx;obtain⟨tk,htk⟩: ∃tk,tk=x.tok.getD 0 []:=⟨_,rfl⟩
  have etk:=htk.symm;rw[etk]at hto2 htx;obtain⟨p,hpx⟩: ∃p,p=fnU l (i:Int):=⟨_,rfl⟩
  rw[←hpx]at hci hto2;simp only[←hpx]at c3;unfold qy at c3
  by_cases g1:0≤p
  ·have k4:(0≤p)=True:=eq_true g1;rw[if_pos g1]at hci;simp (disch:=omega) only[coC,qr,qy,ql,k3,ec,j1',go_sem]
   repeat' first
    |(refine cA (c3 _) ?_ ?_;exact flk;simp (disch:=omega) only[k4,go_sem])
    |with_reducible apply aiA
   all_goals try exact clz
   refine hK _ _ (i+1,.mem (qq (some O1)+1) 3 [.int .i64 (i:Int)],O2) ⟨hi,rfl,j2,hS hci⟩ (by simp only;omega) (Wk.temps ?_)
   (simp only[qU,qy,qr,go_sem,qh,qd,qa,qg];try (repeat' first|(with_reducible apply aiA)|(apply qi;omega)|(apply qe;rfl)|exact qj))
  have k4:(0≤p)=False:=eq_false g1;rw[if_neg g1]at hci;obtain⟨o1,o2⟩:=hto2 (by omega);have k5:(0≤t)=True:=eq_true o1;have k6:(t<tk.length)=True:=eq_true o2;have k7:((0:Int)<c.length)=True:=eq_true (by have:=ho.sg;omega);have k8:((0:Int)<x.tok.length)=True:=eq_true (by omega);obtain⟨tt,htt2⟩: ∃tt,tt=tk.getD t.toNat default:=⟨_,rfl⟩
  have ett:=htt2.symm;rw[ett]at htx;rw[htx]at hcc;have gl:=ky (cwA b b.length) x.col.length;have gg:=qa6 (g:=cwA b b.length) hi;have hcw:cwA b b.length i= .int .i64 (cW b (i:Int) b.length:Int):=rfl;rw[hcw]at gg;have t4:(i<x.col.length)=True:=eq_true hi;have t5:(i+1≤x.col.length)=True:=eq_true hi;obtain⟨q,hq⟩: ∃q,q=cW b (i:Int) b.length:=⟨_,rfl⟩
  rw[←hq]at gg hcc;have c4:=fun v v2 H hk hk2=>qCC b (i:Int) tt.text (h.length+4) v (h.length+5) v2 H hk hk2 hb
  simp (disch:=omega) only[coC,qr,qy,ql,k3,ec,j1',go_sem]
  repeat' first
   |(refine cA (c3 _) ?_ ?_;exact flk;simp (disch:=omega) only[k4,go_sem])
   |with_reducible apply aiA
  all_goals try exact clz
  refine qsQ ?T ?H ?h1 ?h2
  case h1=>
   simp (disch:=omega) only[qo,jc,tkC,k5,k6,k7,k8,et,etk,ett,j2',Int.toNat_zero,go_sem]
   repeat' first
    |with_reducible apply aiA
   all_goals first
    |omega
    |rfl
  case h2=>
  by_cases g2:q=1
  case neg=>
   have k9:((q:Int)=1)=False:=eq_false (by omega);rw[decide_eq_false g2,Bool.false_and]at hcc;rw[hcc,if_neg (by simp)]at hci;have hV:R=9:=by rw[hR,hE (by rw[hci];decide),hci]
   rw[hV];simp (disch:=omega) only[k9,t2,t4,gl,gg,Nat.mul_one,Nat.zero_add,go_sem]
   repeat' first
    |(refine qk ( .bool false) ?_;simp (disch:=omega) only[go_sem])
    |(apply qb;exact rvk;simp only[go_sem];exact qj)
    |with_reducible apply aiA
   all_goals try exact clz
  have k9:((q:Int)=1)=True:=eq_true (by omega);rw[decide_eq_true g2,Bool.true_and]at hcc;have c4:=c4 (qq (some O1)+1) (qq (some O2)+1);obtain⟨B,hB⟩: ∃B,B=qY (fun j=>decide ((b.getD j default).col=(i:Int))&&decide ((b.getD j default).text=tt.text)) b.length:=⟨_,rfl⟩
  rw[←hB]at hcc;simp only[←hB]at c4;unfold qU at c4;simp (disch:=omega) only[k9,t2,t4,gl,gg,Nat.mul_one,Nat.zero_add,qU,go_sem]
  repeat' first
   |with_reducible apply aiA
  all_goals try exact clz
  refine cG (fun _=>c4 _ ?ka ?kb) (fun _=>by exact flk) ?_
  case ka=>simp only[go_sem]
  case kb=>simp only[go_sem]
  cases B with
  |false=>
   rw[hcc,if_neg (by simp)]at hci;have hV:R=9:=by rw[hR,hE (by rw[hci];decide),hci]
   rw[hV];simp (disch:=omega) only[go_sem]
   repeat' first
    |(apply qb;exact rvk;simp only[go_sem];exact qj)
  |true=>
   rw[hcc,if_pos rfl]at hci;simp (disch:=omega) only[go_sem];refine hK _ _ (i+1,.mem (qq (some O1)+1) 3 [.int .i64 (i:Int)],.mem (qq (some O2)+1) 9 [.str tt.text]) ⟨hi,rfl,rfl,hS hci⟩ (by simp only;omega) (Wk.temps ?_)
   (simp only[qU,qy,qr,go_sem,qh,qd,qa,qg];try (repeat' first|(with_reducible apply aiA)|(apply qi;omega)|(apply qe;rfl)|exact qj))
 ·have k3:((i:Int)<x.col.length)=False:=eq_false (by omega);rw[qP (fun j (hj:j<x.col.length)=>j3 j (by omega))]at hR;rw[hR];simp (disch:=omega) only[coC,qr,k3,go_sem]
  repeat' first
   |(apply qb;exact rvk;simp only[go_sem];exact qj)
end RC
end
