import Derived.Test.YtgoandblgcjleaaGreatDoorK10
import Derived.Test.YtgoandblgcjleaaGreatDoorK11
import Derived.Test.YtgoandblgcjleaaGreatDoorK3
import Derived.Test.YtgoandblgcjleaaGreatDoorK4
import Derived.Test.YtgoandblgcjleaaGreatDoorK8
import Derived.Test.YtgoandblgcjleaaGreatDoorProg
import Derived.Test.YtgoandblgcjleaaGreatDoorK7
import Derived.Lib.IndexMore
import Derived.Lib.CountLaws
import Derived.Laws.Strings3
import Derived.Test.YtgoandblgcjleaaGreatDoorK9
import Derived.Shelf.Slices.In.SortAlone
import Derived.Shelf.Slices.In.CompactI
import Derived.Sort.OwnSortedInts
set_option linter.all false
set_option linter.unusedSimpArgs false
set_option linter.unusedVariables false
set_option linter.unusedSectionVars false
set_option maxHeartbeats 128000000
set_option maxRecDepth 100000
section
open Go Go.Proofs AF HY LN
namespace RC
def gnB(sec:Str)(sig:List Str):Bool:=zH (fun i=>decide (20<(sig.getD i []).length)) sig.length||decide (20<sec.length)
theorem gnP(sec:Str)(sig:List Str)(h:List AObj)(hn:sig.length≤9223372036854775807):ACalls Tryz.prog 150 [.str sec,strs sig] h (.bool (gnB sec sig)) h:=by
 obtain⟨R,hR⟩: ∃R,R=gnB sec sig:=⟨_,rfl⟩
 rw[←hR];unfold gnB at hR;refine acO qur ?_;simp (disch:=omega) only[qs8,strs,go_sem];refine qn (T:=fun i:Nat=>qM 21 [(0,.str sec),(1,strs sig),(5,.int .i64 i)]) (H:=fun _=>h) (inv:=fun i=>i≤sig.length∧ ∀j,j<i→(fun i=>decide (20<(sig.getD i []).length)) j=false) (m:=fun i=>sig.length-i) 0 ⟨nzl _,fun j hj=>absurd hj (nnz j)⟩ (Wk.temps ?_) ?_
 ·(simp only[strs,go_sem,qh,qe,qb,qg];try (repeat' first|(with_reducible apply aiA)|(apply qf;omega)|(apply qd;rfl)|exact qi))
 rintro i ⟨i1,i2⟩ K hK
 by_cases hi:i<sig.length
 ·have k1:((i:Int)<sig.length)=True:=eqt om
  by_cases g:20<(sig.getD i []).length
  ·have hV:R=true:=by rw[hR,qv.2 ⟨i,hi,dqt g⟩];rfl
   obtain⟨s,hs⟩: ∃s,s=sig.getD i []:=⟨_,rfl⟩
   have es:=hs.symm;rw[es]at g;have k2:((20:Int)<s.length)=True:=eqt om;rw[hV];simp (disch:=omega) only[strs,k1,k2,es,go_sem]
   repeat' first
    |(apply qc;exact rvk;simp only[go_sem];exact qi)
    |with_reducible apply aiA
   all_goals try exact clz
  ·have i3:=jj i2 (dqf g);obtain⟨s,hs⟩: ∃s,s=sig.getD i []:=⟨_,rfl⟩
   have es:=hs.symm;rw[es]at g;have k2:((20:Int)<s.length)=False:=eqf om;simp (disch:=omega) only[strs,k1,k2,es,go_sem]
   repeat' first
    |with_reducible apply aiA
   all_goals try exact clz
   refine hK _ _ (i+1) ⟨hi,i3⟩ om (Wk.temps ?_)
   (simp only[strs,go_sem,qh,qe,qb,qg];try (repeat' first|(with_reducible apply aiA)|(apply qf;omega)|(apply qd;rfl)|exact qi))
 have k1:((i:Int)<sig.length)=False:=eqf om;rw[qk.2 (fun j hj=>i2 j om),Bool.false_or]at hR;have e1:decide ((20:Int)<sec.length)=decide (20<sec.length):=decide_eq_decide.2 om;rw[hR,←e1];simp (disch:=omega) only[strs,k1,go_sem]
 repeat' first
  |(apply qc;exact rvk;simp only[go_sem];exact qi)
def qbb(t:Tk):Bool:=decide (12<t.text.length)||(decide (12<t.norm.length)||(decide (20<t.page.length)||decide (20<t.name.length)))
def qb9(i:Nat)(r:List Tk):Bool:=decide (6<r.length)||((decide (4≤i)&&decide (1<r.length))||zH (fun k=>qbb (r.getD k default)) r.length)
def prN(L:List (List Tk)):Nat→Nat
 |0=>1
 |i+1=>if i<4 then prN L i*((L.getD i []).length+1) else prN L i
def gtB(L:List (List Tk)):Bool:=zH (fun i=>qb9 i (L.getD i [])) L.length||(decide (400<prN L L.length)||((decide (6<L.length)&&decide (L.length≤32))||decide (34<L.length)))
theorem qvR{L:List (List Tk)}: ∀ {n:Nat},(∀i,i<n→(L.getD i []).length≤6)→prN L n≤7^min n 4:=by
 intro n
 induction n with
 |zero=>intro _;exact nlr _
 |succ n ih=>
  intro h;have h1:=ih fun i hi=>h i om
  have h2:=h n om;unfold prN;split
  ·rename_i g;rw[show min n 4=n by omega]at h1;rw[show min (n+1) 4=n+1 by omega,Nat.pow_succ];exact Nat.mul_le_mul h1 om
  ·rename_i g;rw[show min n 4=4 by omega]at h1;rw[show min (n+1) 4=4 by omega];exact h1
theorem gtP(L:List (List Tk))(h:List AObj)(hn:L.length≤9223372036854775807):ACalls Tryz.prog 149 [qm L] h (.bool (gtB L)) h:=by
 obtain⟨R,hR⟩: ∃R,R=gtB L:=⟨_,rfl⟩
 rw[←hR];unfold gtB at hR;refine acO quq ?_;simp (disch:=omega) only[qs6,qm,go_sem];refine qn (T:=fun i:Nat×AObj=>qM 97 [(0,qm L),(3,.int .i64 (prN L i.1:Int)),(4,.int .i64 i.1)]) (H:=fun i=>h++ [i.2]) (inv:=fun i=>i.1≤L.length∧qP [i.2] 0=true∧ ∀j,j<i.1→(fun i=>qb9 i (L.getD i [])) j=false) (m:=fun i=>L.length-i.1) (0,.emp 0) ⟨nzl _,rfl,fun j hj=>absurd hj (nnz j)⟩ (Wk.temps ?_) ?_
 ·(simp only[qm,prN,go_sem,qh,qe,qb,qg];try (repeat' first|(with_reducible apply aiA)|(apply qf;omega)|(apply qd;rfl)|exact qi))
 rintro⟨i,O⟩ ⟨i1,i2,i3⟩ K hK;simp only at i1 i2 i3 hK;have i2': ∀m,qP (O::m) 0=true:=fun _=>i2
 have h6: ∀j,j<i→(L.getD j []).length≤6:=fun j hj=>by
  have:=i3 j hj
  unfold qb9 at this;simp only[Bool.or_eq_false_iff,decide_eq_false_iff_not]at this;omega
 have hp:=qvR h6;have hp2:prN L i≤2401:=by
  have:7^min i 4≤7^4:=Nat.pow_le_pow_right om (Nat.min_le_right _ _)
  have h3:(7:Nat)^4=2401:=rfl;omega
 have hst:prN L (i+1)=if i<4 then prN L i*((L.getD i []).length+1) else prN L i:=rfl
 obtain⟨q,hq⟩: ∃q,q=prN L i:=⟨_,rfl⟩
 have eq:=hq.symm;rw[eq]at hp2 hst
 by_cases hi:i<L.length
 ·have k1:((i:Int)<L.length)=True:=eqt om;have hit:qb9 i (L.getD i [])=true→R=true:=fun hc=>by rw[hR,qv.2 ⟨i,hi,hc⟩];rfl
  have i4:=fun hc=>jj (p:=fun i=>qb9 i (L.getD i [])) i3 hc
  obtain⟨r,hr⟩: ∃r,r=L.getD i []:=⟨_,rfl⟩
  have er:=hr.symm;rw[er]at hst hit;simp only[er]at i4;have hB:qb9 i r=(decide (6<r.length)||((decide (4≤i)&&decide (1<r.length))||zH (fun k=>qbb (r.getD k default)) r.length)):=rfl
  by_cases g1:6<r.length
  ·have k2:((6:Int)<r.length)=True:=eqt om;rw[hit (by rw[hB,dqt g1];rfl)];simp (disch:=omega) only[qm,zM,k1,k2,er,eq,go_sem]
   repeat' first
    |(apply qa;exact rvk;simp only[go_sem];exact qi)
    |with_reducible first|intro _|apply aiA
   all_goals try exact clz
  have k2:((6:Int)<r.length)=False:=eqf om;rw[dqf g1,Bool.false_or]at hB;have hq':q*(r.length+1)≤2401*7:=Nat.mul_le_mul hp2 om;have hmul:(q:Int)*((r.length:Int)+1)=((q*(r.length+1):Nat):Int):=by push_cast;rfl
  have m2:(((q*(r.length+1):Nat):Int)≤9223372036854775807)=True:=eqt om;have m3:(-9223372036854775808≤((q*(r.length+1):Nat):Int))=True:=eqt om
  by_cases gg:4≤i∧1<r.length
  ·have k3:((4:Int)≤i)=True:=eqt om;have k5:((1:Int)<r.length)=True:=eqt om;rw[hit (by rw[hB,dqt gg.1,dqt gg.2];rfl)];simp (disch:=omega) only[qm,zM,k1,k2,k3,k5,er,eq,go_sem]
   repeat' first
    |(apply qa;exact rvk;simp only[go_sem];exact qi)
    |with_reducible apply aiA
   all_goals try exact clz
  have hB':qb9 i r=zH (fun k=>qbb (r.getD k default)) r.length:=by
   rw[hB]
   have:(decide (4≤i)&&decide (1<r.length))=false:=by
    rw[←Bool.decide_and];exact dqf gg
   rw[this,Bool.false_or]
  rcases Nat.lt_or_ge i 4 with gi|gi
  ·have k3:((4:Int)≤i)=False:=eqf om;have k4:((i:Int)<4)=True:=eqt om;rw[ipo gi]at hst;simp (disch:=omega) only[qm,zM,k1,k2,k3,k4,er,eq,hmul,go_sem]
   repeat' first
    |(apply qa;exact rvk;simp only[go_sem];apply qd)
    |with_reducible first|intro _|apply aiA
   all_goals try exact clz
   refine qn (T:=fun k:Nat×AObj=>qM 97 [(0,qm L),(3,.int .i64 ((q*(r.length+1):Nat):Int)),(4,.int .i64 i),(5,.int .i64 k.1)]) (H:=fun k=>h++ [k.2]) (inv:=fun k=>k.1≤r.length∧qP [k.2] 0=true∧ ∀j,j<k.1→(fun k=>qbb (r.getD k default)) j=false) (m:=fun k=>r.length-k.1) (0,O) ⟨nzl _,i2,fun j hj=>absurd hj (nnz j)⟩ (Wk.temps ?_) ?_
   ·(simp only[qm,go_sem,qh,qe,qb,qg];try (repeat' first|(with_reducible apply aiA)|(apply qf;omega)|(apply qd;rfl)|exact qi))
   rintro⟨k,O'⟩ ⟨u1,u2,u3⟩ K2 hK2;simp only at u1 u2 u3 hK2;have u2': ∀m,qP (O'::m) 0=true:=fun _=>u2
   by_cases hk:k<r.length
   ·have t1:((k:Int)<r.length)=True:=eqt om;have hbit:qbb (r.getD k default)=true→R=true:=fun hc=>hit (by rw[hB',qv];exact⟨k,hk,hc⟩)
    have u4:=fun hc=>jj (p:=fun k=>qbb (r.getD k default)) u3 hc
    obtain⟨t,ht⟩: ∃t,t=r.getD k default:=⟨_,rfl⟩
    have et:=ht.symm;rw[et]at hbit;simp only[et]at u4;have hT:qbb t=(decide (12<t.text.length)||(decide (12<t.norm.length)||(decide (20<t.page.length)||decide (20<t.name.length)))):=rfl
    by_cases gA:12<t.text.length
    ·have qA:((12:Int)<t.text.length)=True:=eqt om;rw[hbit (by rw[hT,dqt gA];simp)];simp (disch:=omega) only[qm,zM,tkC,k1,t1,er,et,u2',qA,go_sem]
     repeat' first
      |(apply qa;exact rvk;simp only[go_sem];exact qi)
      |with_reducible apply aiA
     all_goals try exact clz
    have qA:((12:Int)<t.text.length)=False:=eqf om
    by_cases gB:12<t.norm.length
    ·have qB:((12:Int)<t.norm.length)=True:=eqt om;rw[hbit (by rw[hT,dqt gB];simp)];simp (disch:=omega) only[qm,zM,tkC,k1,t1,er,et,u2',qA,qB,go_sem]
     repeat' first
      |(apply qa;exact rvk;simp only[go_sem];exact qi)
      |with_reducible apply aiA
     all_goals try exact clz
    have qB:((12:Int)<t.norm.length)=False:=eqf om
    by_cases gC:20<t.page.length
    ·have qC:((20:Int)<t.page.length)=True:=eqt om;rw[hbit (by rw[hT,dqt gC];simp)];simp (disch:=omega) only[qm,zM,tkC,k1,t1,er,et,u2',qA,qB,qC,go_sem]
     repeat' first
      |(apply qa;exact rvk;simp only[go_sem];exact qi)
      |with_reducible apply aiA
     all_goals try exact clz
    have qC:((20:Int)<t.page.length)=False:=eqf om
    by_cases gD:20<t.name.length
    ·have qD:((20:Int)<t.name.length)=True:=eqt om;rw[hbit (by rw[hT,dqt gD];simp)];simp (disch:=omega) only[qm,zM,tkC,k1,t1,er,et,u2',qA,qB,qC,qD,go_sem]
     repeat' first
      |(apply qa;exact rvk;simp only[go_sem];exact qi)
      |with_reducible apply aiA
     all_goals try exact clz
    have qD:((20:Int)<t.name.length)=False:=eqf om;simp (disch:=omega) only[qm,zM,tkC,k1,t1,er,et,u2',qA,qB,qC,qD,go_sem]
    repeat' first
     |with_reducible apply aiA
    all_goals try exact clz
    refine hK2 _ _ (k+1,_) ⟨hk,rfl,u4 (by rw[hT,dqf gA,dqf gB,dqf gC,dqf gD];rfl)⟩ (by simp only;omega) (Wk.temps ?_)
    (simp only[qm,zM,tkC,go_sem,qh,qe,qb,qg];try (repeat' first|(with_reducible apply aiA)|(apply qf;omega)|(apply qd;rfl)|exact qi))
   ·have t1:((k:Int)<r.length)=False:=eqf om;have hz:qb9 i r=false:=by rw[hB',qk];exact fun j hj=>u3 j om
    simp (disch:=omega) only[qm,zM,t1,er,go_sem]
    repeat' first
     |with_reducible apply aiA
    all_goals try exact clz
    refine hK _ _ (i+1,O') ⟨hi,u2,i4 hz⟩ (by simp only;omega) ?_;simp only[hst];refine Wk.temps ?_
    (simp only[qm,go_sem,qh,qe,qb,qg];try (repeat' first|(with_reducible apply aiA)|(apply qf;omega)|(apply qd;rfl)|exact qi))
  ·have k3:((4:Int)≤i)=True:=eqt om;have k4:((i:Int)<4)=False:=eqf om;have k5:((1:Int)<r.length)=False:=eqf om;rw[ine om]at hst;simp (disch:=omega) only[qm,zM,k1,k2,k3,k4,k5,er,eq,hmul,go_sem]
   repeat' first
    |with_reducible apply aiA
   all_goals try exact clz
   refine qn (T:=fun k:Nat×AObj=>qM 97 [(0,qm L),(3,.int .i64 (q:Int)),(4,.int .i64 i),(5,.int .i64 k.1)]) (H:=fun k=>h++ [k.2]) (inv:=fun k=>k.1≤r.length∧qP [k.2] 0=true∧ ∀j,j<k.1→(fun k=>qbb (r.getD k default)) j=false) (m:=fun k=>r.length-k.1) (0,O) ⟨nzl _,i2,fun j hj=>absurd hj (nnz j)⟩ (Wk.temps ?_) ?_
   ·(simp only[qm,go_sem,qh,qe,qb,qg];try (repeat' first|(with_reducible apply aiA)|(apply qf;omega)|(apply qd;rfl)|exact qi))
   rintro⟨k,O'⟩ ⟨u1,u2,u3⟩ K2 hK2;simp only at u1 u2 u3 hK2;have u2': ∀m,qP (O'::m) 0=true:=fun _=>u2
   by_cases hk:k<r.length
   ·have t1:((k:Int)<r.length)=True:=eqt om;have hbit:qbb (r.getD k default)=true→R=true:=fun hc=>hit (by rw[hB',qv];exact⟨k,hk,hc⟩)
    have u4:=fun hc=>jj (p:=fun k=>qbb (r.getD k default)) u3 hc
    obtain⟨t,ht⟩: ∃t,t=r.getD k default:=⟨_,rfl⟩
    have et:=ht.symm;rw[et]at hbit;simp only[et]at u4;have hT:qbb t=(decide (12<t.text.length)||(decide (12<t.norm.length)||(decide (20<t.page.length)||decide (20<t.name.length)))):=rfl
    by_cases gA:12<t.text.length
    ·have qA:((12:Int)<t.text.length)=True:=eqt om;rw[hbit (by rw[hT,dqt gA];simp)];simp (disch:=omega) only[qm,zM,tkC,k1,t1,er,et,u2',qA,go_sem]
     repeat' first
      |(apply qa;exact rvk;simp only[go_sem];exact qi)
      |with_reducible apply aiA
     all_goals try exact clz
    have qA:((12:Int)<t.text.length)=False:=eqf om
    by_cases gB:12<t.norm.length
    ·have qB:((12:Int)<t.norm.length)=True:=eqt om;rw[hbit (by rw[hT,dqt gB];simp)];simp (disch:=omega) only[qm,zM,tkC,k1,t1,er,et,u2',qA,qB,go_sem]
     repeat' first
      |(apply qa;exact rvk;simp only[go_sem];exact qi)
      |with_reducible apply aiA
     all_goals try exact clz
    have qB:((12:Int)<t.norm.length)=False:=eqf om
    by_cases gC:20<t.page.length
    ·have qC:((20:Int)<t.page.length)=True:=eqt om;rw[hbit (by rw[hT,dqt gC];simp)];simp (disch:=omega) only[qm,zM,tkC,k1,t1,er,et,u2',qA,qB,qC,go_sem]
     repeat' first
      |(apply qa;exact rvk;simp only[go_sem];exact qi)
      |with_reducible apply aiA
     all_goals try exact clz
    have qC:((20:Int)<t.page.length)=False:=eqf om
    by_cases gD:20<t.name.length
    ·have qD:((20:Int)<t.name.length)=True:=eqt om;rw[hbit (by rw[hT,dqt gD];simp)];simp (disch:=omega) only[qm,zM,tkC,k1,t1,er,et,u2',qA,qB,qC,qD,go_sem]
     repeat' first
      |(apply qa;exact rvk;simp only[go_sem];exact qi)
      |with_reducible apply aiA
     all_goals try exact clz
    have qD:((20:Int)<t.name.length)=False:=eqf om;simp (disch:=omega) only[qm,zM,tkC,k1,t1,er,et,u2',qA,qB,qC,qD,go_sem]
    repeat' first
     |with_reducible apply aiA
    all_goals try exact clz
    refine hK2 _ _ (k+1,_) ⟨hk,rfl,u4 (by rw[hT,dqf gA,dqf gB,dqf gC,dqf gD];rfl)⟩ (by simp only;omega) (Wk.temps ?_)
    (simp only[qm,zM,tkC,go_sem,qh,qe,qb,qg];try (repeat' first|(with_reducible apply aiA)|(apply qf;omega)|(apply qd;rfl)|exact qi))
   ·have t1:((k:Int)<r.length)=False:=eqf om;have hz:qb9 i r=false:=by rw[hB',qk];exact fun j hj=>u3 j om
    simp (disch:=omega) only[qm,zM,t1,er,go_sem]
    repeat' first
     |with_reducible apply aiA
    all_goals try exact clz
    refine hK _ _ (i+1,O') ⟨hi,u2,i4 hz⟩ (by simp only;omega) ?_;simp only[hst];refine Wk.temps ?_
    (simp only[qm,go_sem,qh,qe,qb,qg];try (repeat' first|(with_reducible apply aiA)|(apply qf;omega)|(apply qd;rfl)|exact qi))
 have k1:((i:Int)<L.length)=False:=eqf om;obtain rfl:i=L.length:=by omega
 rw[qk.2 (fun j hj=>i3 j hj),Bool.false_or,←hq]at hR
 by_cases g1:400<q
 ·have k2:((400:Int)<q)=True:=eqt om;rw[hR,dqt g1,Bool.true_or];simp (disch:=omega) only[qm,k1,k2,eq,go_sem]
  repeat' first
   |(apply qa;exact rvk;simp only[go_sem];exact qi)
 have k2:((400:Int)<q)=False:=eqf om;rw[dqf g1,Bool.false_or]at hR
 by_cases g2:6<L.length
 ·have k3:((6:Int)<L.length)=True:=eqt om
  by_cases g3:L.length≤32
  ·have k4:((L.length:Int)≤32)=True:=eqt om;rw[hR,dqt g2,dqt g3];simp (disch:=omega) only[qm,k1,k2,k3,k4,eq,go_sem]
   repeat' first
    |(apply qa;exact rvk;simp only[go_sem];exact qi)
  have k4:((L.length:Int)≤32)=False:=eqf om;have e1:decide ((34:Int)<L.length)=decide (34<L.length):=decide_eq_decide.2 om;rw[hR,dqt g2,dqf g3,←e1];simp (disch:=omega) only[qm,k1,k2,k3,k4,eq,go_sem]
  repeat' first
   |(apply qa;exact rvk;simp only[go_sem];exact qi)
 have k3:((6:Int)<L.length)=False:=eqf om;have e1:decide ((34:Int)<L.length)=decide (34<L.length):=decide_eq_decide.2 om;rw[hR,dqf g2,←e1];simp (disch:=omega) only[qm,k1,k2,k3,eq,go_sem]
 repeat' first
  |(apply qa;exact rvk;simp only[go_sem];exact qi)
structure CoB (x:Co):Prop where
 sg:x.sig.length≤9223372036854775807
 tk:x.tok.length≤9223372036854775807
 cl:x.col.length≤9223372036854775807
def qnh(x:Co):Bool:=zH (fun i=>decide (36<(x.col.getD i []).length)) x.col.length||(gtB x.tok||(decide (24<x.col.length)||(decide (36<x.sig.length)||gnB x.sec x.sig)))
theorem qzx(x:Co)(h:List AObj)(hb:CoB x):ACalls Tryz.prog 77 [.agg (coC x)] h (.bool (qnh x)) h:=by
 have c1:=fun h=>gtP x.tok h hb.tk
 have c2:=fun h=>gnP x.sec x.sig h hb.sg
 have hc:=hb.cl;obtain⟨R,hR⟩: ∃R,R=qnh x:=⟨_,rfl⟩
 rw[←hR];unfold qnh at hR;unfold qm at c1;unfold strs at c2;refine acO qxN ?_;simp (disch:=omega) only[qyT,coC,qp,go_sem];refine qn (T:=fun i:Nat=>qM 40 [(1,.op h.length 1 0),(3,.int .i64 i)]) (H:=fun _=>h++ [.mem 1 26 (coC x)]) (inv:=fun i=>i≤x.col.length∧ ∀j,j<i→(fun i=>decide (36<(x.col.getD i []).length)) j=false) (m:=fun i=>x.col.length-i) 0 ⟨nzl _,fun j hj=>absurd hj (nnz j)⟩ (Wk.temps ?_) ?_
 ·(simp only[go_sem,qh,qe,qb,qg];try (repeat' first|(with_reducible apply aiA)|(apply qf;omega)|(apply qd;rfl)|exact qi))
 rintro i ⟨i1,i2⟩ K hK
 by_cases hi:i<x.col.length
 ·have k1:((i:Int)<x.col.length)=True:=eqt om
  by_cases g:36<(x.col.getD i []).length
  ·have hV:R=true:=by rw[hR,qv.2 ⟨i,hi,dqt g⟩];rfl
   obtain⟨s,hs⟩: ∃s,s=x.col.getD i []:=⟨_,rfl⟩
   have es:=hs.symm;rw[es]at g;have k2:((36:Int)<s.length)=True:=eqt om;rw[hV];simp (disch:=omega) only[coC,qp,qq,k1,k2,es,go_sem]
   repeat' first
    |(apply qa;exact rvk;simp only[go_sem];exact qi)
    |with_reducible apply aiA
   all_goals try exact clz
  ·have i3:=jj i2 (dqf g);obtain⟨s,hs⟩: ∃s,s=x.col.getD i []:=⟨_,rfl⟩
   have es:=hs.symm;rw[es]at g;have k2:((36:Int)<s.length)=False:=eqf om;simp (disch:=omega) only[coC,qp,qq,k1,k2,es,go_sem]
   repeat' first
    |with_reducible apply aiA
   all_goals try exact clz
   refine hK _ _ (i+1) ⟨hi,i3⟩ om (Wk.temps ?_)
   (simp only[go_sem,qh,qe,qb,qg];try (repeat' first|(with_reducible apply aiA)|(apply qf;omega)|(apply qd;rfl)|exact qi))
 have k1:((i:Int)<x.col.length)=False:=eqf om;rw[qk.2 (fun j hj=>i2 j om),Bool.false_or]at hR;cases gA:gtB x.tok with
 |true=>
  rw[gA]at hR c1;rw[hR,Bool.true_or];simp (disch:=omega) only[coC,qp,k1,qm,go_sem]
  repeat' first
   |(refine qj ( .bool false) ?_;simp (disch:=omega) only[go_sem])
   |(refine cA (c1 _) flk ?_;simp (disch:=omega) only[go_sem])
   |(apply qa;exact rvk;simp only[go_sem];exact qi)
   |with_reducible apply aiA
  all_goals try exact clz
 |false=>
 rw[gA]at hR c1;rw[Bool.false_or]at hR
 by_cases g2:24<x.col.length
 ·have k2:((24:Int)<x.col.length)=True:=eqt om;rw[hR,dqt g2,Bool.true_or];simp (disch:=omega) only[coC,qp,k1,qm,go_sem]
  repeat' first
   |(refine qj ( .bool false) ?_;simp (disch:=omega) only[go_sem])
   |(refine cA (c1 _) flk ?_;simp (disch:=omega) only[k2,go_sem])
   |(apply qa;exact rvk;simp only[go_sem];exact qi)
   |with_reducible apply aiA
  all_goals try exact clz
 have k2:((24:Int)<x.col.length)=False:=eqf om;rw[dqf g2,Bool.false_or]at hR
 by_cases g3:36<x.sig.length
 ·have k3:((36:Int)<x.sig.length)=True:=eqt om;rw[hR,dqt g3,Bool.true_or];simp (disch:=omega) only[coC,qp,k1,qm,strs,go_sem]
  repeat' first
   |(refine qj ( .bool false) ?_;simp (disch:=omega) only[go_sem])
   |(refine cA (c1 _) flk ?_;simp (disch:=omega) only[k2,k3,go_sem])
   |(apply qa;exact rvk;simp only[go_sem];exact qi)
   |with_reducible apply aiA
  all_goals try exact clz
 have k3:((36:Int)<x.sig.length)=False:=eqf om;rw[dqf g3,Bool.false_or]at hR;rw[hR];simp (disch:=omega) only[coC,qp,k1,qm,strs,go_sem]
 repeat' first
  |((first|refine cA (c1 _) ?_ ?_|refine cG (fun e=>c2 _) ?_ ?_);exact flk;simp (disch:=omega) only[k2,k3,go_sem])
  |(apply qa;exact rvk;simp only[go_sem];exact qi)
  |with_reducible apply aiA
 all_goals try exact clz
def guR(u:Un)(k:Nat):Bool:=decide (8<(u.rds.getD k default).src.length)||gwB (u.rds.getD k default).words 8
def guB(u:Un):Bool:=decide (6<u.rds.length)||zH (guR u) u.rds.length
def qq5(l:List Un):Bool:=zH (fun i=>guB (l.getD i default)) l.length||decide (12<l.length)
structure UnB (l:List Un):Prop where
 n:l.length≤9223372036854775807
 rd: ∀i,(l.getD i default).rds.length≤9223372036854775807
 wd: ∀i j,((l.getD i default).rds.getD j default).words.length≤9223372036854775807
theorem qzy(l:List Un)(h:List AObj)(hb:UnB l):ACalls Tryz.prog 78 [qz l] h (.bool (qq5 l)) h:=by
 have hn:=hb.n;obtain⟨R,hR⟩: ∃R,R=qq5 l:=⟨_,rfl⟩
 rw[←hR];unfold qq5 at hR;refine acO qxO ?_;simp (disch:=omega) only[qyU,qz,go_sem];refine qn (T:=fun i:Nat=>qM 54 [(0,qz l),(3,.int .i64 i)]) (H:=fun _=>h) (inv:=fun i=>i≤l.length∧ ∀j,j<i→(fun i=>guB (l.getD i default)) j=false) (m:=fun i=>l.length-i) 0 ⟨nzl _,fun j hj=>absurd hj (nnz j)⟩ (Wk.temps ?_) ?_
 ·(simp only[qz,go_sem,qh,qe,qb,qg];try (repeat' first|(with_reducible apply aiA)|(apply qf;omega)|(apply qd;rfl)|exact qi))
 rintro i ⟨i1,i2⟩ K hK
 by_cases hi:i<l.length
 ·have k1:((i:Int)<l.length)=True:=eqt om;have hit:guB (l.getD i default)=true→R=true:=fun hc=>by rw[hR,qv.2 ⟨i,hi,hc⟩];rfl
  have i3:=fun hc=>jj (p:=fun i=>guB (l.getD i default)) i2 hc
  have hrd:=hb.rd i;have hwd:=hb.wd i;obtain⟨u,hu⟩: ∃u,u=l.getD i default:=⟨_,rfl⟩
  have eu:=hu.symm;rw[eu]at hit hrd;simp only[eu]at i3 hwd;have hB:guB u=(decide (6<u.rds.length)||zH (guR u) u.rds.length):=rfl
  by_cases g1:6<u.rds.length
  ·have k2:((6:Int)<u.rds.length)=True:=eqt om;rw[hit (by rw[hB,dqt g1];rfl)];simp (disch:=omega) only[qz,unC,zL,k1,k2,eu,go_sem]
   repeat' first
    |(apply qc;exact rvk;simp only[go_sem];exact qi)
    |with_reducible apply aiA
   all_goals try exact clz
  have k2:((6:Int)<u.rds.length)=False:=eqf om;rw[dqf g1,Bool.false_or]at hB;simp (disch:=omega) only[qz,unC,zL,k1,k2,eu,go_sem]
  repeat' first
   |with_reducible apply aiA
  all_goals try exact clz
  refine qn (T:=fun k:Nat=>qM 54 [(0,qz l),(3,.int .i64 i),(4,.int .i64 k)]) (H:=fun _=>h) (inv:=fun k=>k≤u.rds.length∧ ∀j,j<k→guR u j=false) (m:=fun k=>u.rds.length-k) 0 ⟨nzl _,fun j hj=>absurd hj (nnz j)⟩ (Wk.temps ?_) ?_
  ·(simp only[qz,go_sem,qh,qe,qb,qg];try (repeat' first|(with_reducible apply aiA)|(apply qf;omega)|(apply qd;rfl)|exact qi))
  rintro k ⟨u1,u2⟩ K2 hK2
  by_cases hk:k<u.rds.length
  ·have t1:((k:Int)<u.rds.length)=True:=eqt om;have hkit:guR u k=true→R=true:=fun hc=>hit (by rw[hB,qv];exact⟨k,hk,hc⟩)
   have u3:=fun hc=>jj (p:=guR u) u2 hc
   have hG:guR u k=(decide (8<(u.rds.getD k default).src.length)||gwB (u.rds.getD k default).words 8):=rfl;have c1:=fun h=>gwP (u.rds.getD k default).words 8 h (hwd k)
   obtain⟨r,hr⟩: ∃r,r=u.rds.getD k default:=⟨_,rfl⟩
   have er:=hr.symm;simp only[er]at hG c1;unfold strs at c1;have z8:((8:Nat):Int)=8:=rfl;simp only[z8]at c1
   by_cases g2:8<r.src.length
   ·have t2:((8:Int)<r.src.length)=True:=eqt om;rw[hkit (by rw[hG,dqt g2];rfl)];simp (disch:=omega) only[qz,unC,zL,rdC,qq,t1,eu,er,k1,t2,go_sem]
    repeat' first
     |(refine qj ( .bool false) ?_;simp (disch:=omega) only[go_sem])
     |(apply qc;exact rvk;simp only[go_sem];exact qi)
     |with_reducible apply aiA
    all_goals try exact clz
   have t2:((8:Int)<r.src.length)=False:=eqf om;rw[dqf g2,Bool.false_or]at hG;cases g3:gwB r.words 8 with
   |true=>
    rw[g3]at hG c1;rw[hkit hG];simp (disch:=omega) only[qz,unC,zL,rdC,qq,t1,eu,er,strs,k1,t2,go_sem]
    repeat' first
     |(refine cG (fun e=>c1 _) flk ?_;simp (disch:=omega) only[go_sem])
     |(apply qc;exact rvk;simp only[go_sem];exact qi)
     |with_reducible apply aiA
    all_goals try exact clz
   |false=>
    rw[g3]at hG c1;simp (disch:=omega) only[qz,unC,zL,rdC,qq,t1,eu,er,strs,k1,t2,go_sem]
    repeat' first
     |(refine cG (fun e=>c1 _) flk ?_;simp (disch:=omega) only[go_sem])
     |with_reducible apply aiA
    all_goals try exact clz
    refine hK2 _ _ (k+1) ⟨hk,u3 hG⟩ om (Wk.temps ?_)
    (simp only[qz,go_sem,qh,qe,qb,qg];try (repeat' first|(with_reducible apply aiA)|(apply qf;omega)|(apply qd;rfl)|exact qi))
  ·have t1:((k:Int)<u.rds.length)=False:=eqf om;have hz:guB u=false:=by rw[hB,qk];exact fun j hj=>u2 j om
   simp (disch:=omega) only[qz,unC,zL,k1,t1,eu,go_sem]
   repeat' first
    |with_reducible apply aiA
   all_goals try exact clz
   refine hK _ _ (i+1) ⟨hi,i3 hz⟩ om (Wk.temps ?_)
   (simp only[qz,go_sem,qh,qe,qb,qg];try (repeat' first|(with_reducible apply aiA)|(apply qf;omega)|(apply qd;rfl)|exact qi))
 have k1:((i:Int)<l.length)=False:=eqf om;rw[qk.2 (fun j hj=>i2 j om),Bool.false_or]at hR;have e1:decide ((12:Int)<l.length)=decide (12<l.length):=decide_eq_decide.2 om;rw[hR,←e1];simp (disch:=omega) only[qz,k1,go_sem]
 repeat' first
  |(apply qc;exact rvk;simp only[go_sem];exact qi)
end RC
end
section
open Go Go.Proofs AF
end
section
open Go Go.Proofs AF HY LN
namespace RC
def qqt(L:List (List Str)):AV:= .sl L.length fun i=> [strs (L.getD i [])]
def qpQ(L:List Bool):AV:= .sl L.length fun i=> [.bool (L.getD i false)]
theorem flag_clsV(L:List (List Str)):(qqt L).flag=true:=rfl
theorem strip_clsV(L:List (List Str)):(qqt L).strip=qqt L:=rfl
theorem flag_bolV(L:List Bool):(qpQ L).flag=true:=rfl
theorem strip_bolV(L:List Bool):(qpQ L).strip=qpQ L:=rfl
section
variable {fz : Nat → Bool} {h : List AObj} {n : Nat}
theorem rei_clsV(L:List (List Str)):rei fz h (n+1) (qqt L)=qqt L:=rfl
theorem rei_bolV(L:List Bool):rei fz h (n+1) (qpQ L)=qpQ L:=rfl
theorem frz_clsV(L:List (List Str)):frz fz h (n+1) (qqt L)=qqt L:=rfl
theorem frz_bolV(L:List Bool):frz fz h (n+1) (qpQ L)=qpQ L:=rfl
end
attribute [go_sem] flag_clsV strip_clsV flag_bolV strip_bolV rei_clsV rei_bolV frz_clsV frz_bolV
theorem zj{α:Type}{d:α}(L:List α)(P:α→Prop)(hd:P d)(h: ∀i,i<L.length→P (L.getD i d)): ∀i,P (L.getD i d):=by
 intro i
 by_cases hi:i<L.length
 ·exact h i hi
 ·rw[gdqA,List.getElem?_eq_none om];exact hd
theorem qvi{x:Co}(h:qnh x=false):qen x∧x.col.length≤24∧x.sig.length≤36:=by
 unfold qnh at h;rw[Bool.or_eq_false_iff,Bool.or_eq_false_iff,Bool.or_eq_false_iff,Bool.or_eq_false_iff,qk,decide_eq_false_iff_not,decide_eq_false_iff_not]at h;obtain⟨h1,h2,h3,h4,h5⟩:=h;unfold gtB at h2;rw[Bool.or_eq_false_iff,qk,Bool.or_eq_false_iff,Bool.or_eq_false_iff,decide_eq_false_iff_not,decide_eq_false_iff_not]at h2;obtain⟨t1,t2,t3,t4⟩:=h2;unfold gnB at h5;rw[Bool.or_eq_false_iff,qk,decide_eq_false_iff_not]at h5;obtain⟨n1,n2⟩:=h5;have hrow: ∀i,i<x.tok.length→(x.tok.getD i []).length≤6∧ ∀j,j<(x.tok.getD i []).length→qbb ((x.tok.getD i []).getD j default)=false:=fun i hi=>by
  have:=t1 i hi
  unfold qb9 at this;rw[Bool.or_eq_false_iff,Bool.or_eq_false_iff,decide_eq_false_iff_not,qk]at this;exact⟨om,this.2.2⟩
 have hd0:qoJ (default:Tk):=⟨by decide,by decide,by decide,by decide⟩
 refine⟨⟨om,om,?_,om,?_,?_,om,?_⟩,om,om⟩
 ·exact zj x.sig (fun s=>s.length≤1000000000) (by decide) fun i hi=>by
   have:=of_decide_eq_false (n1 i hi)
   omega
 ·exact zj x.tok (fun s=>s.length≤1000000000) (by decide) fun i hi=>by have:=(hrow i hi).1;omega
 ·exact zj x.tok (fun s=> ∀j,qoJ (s.getD j default)) (fun j=>by simpa using hd0) fun i hi=>zj _ qoJ hd0 fun j hj=>by
   have:=(hrow i hi).2 j hj
   unfold qbb at this;simp only[Bool.or_eq_false_iff,decide_eq_false_iff_not]at this;exact⟨om,om,om,om⟩
 ·exact zj x.col (fun s=>s.length≤1000000000) (by decide) fun i hi=>by
   have:=of_decide_eq_false (h1 i hi)
   omega
theorem qvk{l:List Un}(h:qq5 l=false):qeo l∧l.length≤12:=by
 unfold qq5 at h;rw[Bool.or_eq_false_iff,qk,decide_eq_false_iff_not]at h;obtain⟨h1,h2⟩:=h;have hu: ∀i,i<l.length→(l.getD i default).rds.length≤6∧ ∀j,j<(l.getD i default).rds.length→((l.getD i default).rds.getD j default).src.length≤8∧((l.getD i default).rds.getD j default).words.length≤8:=fun i hi=>by
  have:=h1 i hi
  unfold guB at this;rw[Bool.or_eq_false_iff,decide_eq_false_iff_not,qk]at this;refine⟨om,fun j hj=> ?_⟩;have h3:=this.2 j hj;unfold guR at h3;rw[Bool.or_eq_false_iff,decide_eq_false_iff_not]at h3
  have:=(qvv h3.2).1
  exact⟨om,om⟩
 refine⟨⟨om,?_,?_,?_⟩,om⟩
 ·exact zj l (fun u=>u.rds.length≤1000000000) (by decide) fun i hi=>by have:=(hu i hi).1;omega
 ·exact zj l (fun u=> ∀j,(u.rds.getD j default).src.length≤1000000000) (fun j=>by simp[show (default:Un).rds= []from rfl,show (default:Rd).src= []from rfl]) fun i hi=>zj _ (fun r:Rd=>r.src.length≤1000000000) (by decide) fun j hj=>by have:=(hu i hi).2 j hj;omega
 ·exact zj l (fun u=> ∀j,(u.rds.getD j default).words.length≤1000000000) (fun j=>by simp[show (default:Un).rds= []from rfl,show (default:Rd).words= []from rfl]) fun i hi=>zj _ (fun r:Rd=>r.words.length≤1000000000) (by decide) fun j hj=>by have:=(hu i hi).2 j hj;omega
end RC
end
section
namespace AF
open Go
theorem Wk.moveCell{t:List AV}{h:List AObj}{i j a w v:Nat}{ty ty':TypeId}{ds cs:List AV}{sz off len:Nat}
  (hi:getO i h=some (.mem w ty' ds)) (ha:ds[a]? =some (.osl j v sz off len)) (hj:getO j h=some (.mem v ty cs)) (hne:i≠j):
  Wk t h t (setO i (setO j h (.emp (v+1))) (.mem w ty' (ds.set a (.osl h.length 1 sz off len)))++ [.mem 1 ty cs]):=by
 intro N W σ A H;obtain⟨p1,p2⟩:=H.hr.pushN 1;have hjl:=zA hj;have hil:=zA hi;have hj':getO j (h++ [.emp 0])=some (.mem v ty cs):=by rw[jG hjl];exact hj
 have hg:getO h.length (h++ [AObj.emp 0])=some (.emp 0):=by unfold getO;rw[List.getElem?_append_right (nlr _),Nat.sub_self];rfl
 have hk':qP (h++ [.emp 0]) h.length=true:=by unfold qP;rw[hg]
 obtain⟨σ2,q1,q2,q3⟩:=HR.move (h:=h++ [.emp 0]) p1 hj' hk' om;have e0:setO h.length (setO j (h++ [.emp 0]) (.emp (v+1))) (.mem (qr (getO h.length (h++ [.emp 0]))+1) ty cs)=setO j h (.emp (v+1))++ [.mem 1 ty cs]:=by
  rw[hg];unfold setO;rw[List.set_append_left _ _ hjl,List.set_append_right _ _ (by rw[List.length_set];exact nlr _),List.length_set,Nat.sub_self];rfl
 rw[e0]at q1;rw[hg]at q3;have ee:=p2.trans q2;have hiq:getO i (setO j h (.emp (v+1))++ [.mem 1 ty cs])=some (.mem w ty' ds):=by
  rw[jG (by rw[zD];exact hil),zJ (by exact hne)];exact hi
 obtain⟨o,b,arr,o1,o2,o3,o4,o5,o6,o7,o8,o9⟩:=zX q1 (qS hiq);obtain⟨o',b',arr',r1,r2,r3,r4,r5,r6,r7,r8,r9⟩:=zX H.hr (qS hi);obtain⟨o2',s1,s2,s3⟩:=ee.obj i o' r1;rw[o1]at s1;cases s1;have eo:o=o':=s3 (o2.trans r2.symm);subst eo;rw[o4]at r4;cases r4;have earr:arr=arr':=by
  obtain⟨T,fz,_,x1⟩:=o5;obtain⟨T',fz',_,x2⟩:=r5;rw[x1]at x2;cases x2;rfl
 subst earr;have q:=q1.recell (cs':=ds.set a (.osl h.length 1 sz off len)) hiq o1 o4 o5 o6 (by simpa using o7) (fun n x hn hx=>o8 n x (by simpa using hn) hx) (fun n d x hd hx=>by
  rw[List.getElem?_set]at hd;split at hd
  ·rename_i e;subst e;split at hd
   ·cases hd;exact q3 sz off len x ((r9 a _ x ha hx).ext p2)
   ·cases hd
  ·exact o9 n d x hd hx)
 have e1:setO i (setO j h (.emp (v+1))++ [.mem 1 ty cs]) (.mem w ty' (ds.set a (.osl h.length 1 sz off len)))=setO i (setO j h (.emp (v+1))) (.mem w ty' (ds.set a (.osl h.length 1 sz off len)))++ [.mem 1 ty cs]:=by
  unfold setO;rw[List.set_append_left _ _ (by rw[List.length_set];exact hil)]
 rw[e1]at q;exact⟨σ2,⟨q,H.sz,fun n d x hd hx=>(H.tm n d x hd hx).ext ee,qam ee H.df⟩,ee⟩
end AF
end
section
open Go Go.Proofs AF HY LN
namespace RC
def jn(base:Nat)(L:List Rd):List AV:=(List.range L.length).flatMap fun j=> [strs (L.getD j default).words,.osl (base+j) (L.getD j default).src.length 1 0 (L.getD j default).src.length]
def qcx(L:List Rd):List AObj:=L.map fun r=> .mem r.src.length 3 (qW r.src)
theorem qfV(L:List Rd):(qcx L).length=L.length:=by simp[qcx]
theorem qc5{L:List Rd}{j:Nat}(hj:j<L.length):(qcx L)[j]? =some (.mem (L.getD j default).src.length 3 (qW (L.getD j default).src)):=by
 unfold qcx;rw[List.getElem?_map,jr hj,gdqA,jr hj];rfl
theorem qfU(L M:List Rd):qcx (L++M)=qcx L++qcx M:=by simp[qcx]
theorem qfW{L:List Rd}{j:Nat}(r:Rd):(qcx L).set j (.mem r.src.length 3 (qW r.src))=qcx (L.set j r):=by
 unfold qcx;rw[List.map_set]
theorem qcw{α:Type}(f g:Nat→List α): ∀n,(∀i,i<n→f i=g i)→(List.range n).flatMap f=(List.range n).flatMap g:=fun n h=>by
 rw[List.flatMap_def,List.flatMap_def];congr 1;exact List.map_congr_left fun i hi=>h i (List.mem_range.1 hi)
theorem qdY(base:Nat)(L:List Rd)(r:Rd):jn base (L++ [r])=jn base L++ [strs r.words,.osl (base+L.length) r.src.length 1 0 r.src.length]:=by
 unfold jn;rw[lap,List.length_singleton,List.range_succ,List.flatMap_append];congr 1
 ·refine qcw _ _ _ fun i hi=> ?_
  rw[gdqA,List.getElem?_append_left hi,←gdqA]
 ·simp
theorem qaf(base:Nat)(L:List Rd):(jn base L).length=2*L.length:=by
 unfold jn;generalize L.length=n;generalize hf:(fun j=> [strs (L.getD j default).words,AV.osl (base+j) (L.getD j default).src.length 1 0 (L.getD j default).src.length])=f;have h2: ∀j,(f j).length=2:=fun j=>by rw[←hf];rfl
 induction n with
 |zero=>rfl
 |succ n ih=>rw[List.range_succ,List.flatMap_append,lap,ih];simp[h2];omega
theorem qa0(base:Nat)(L:List Rd){k:Nat}(hk:k<L.length): ∃A B,A.length=2*k∧jn base L=A++ [strs (L.getD k default).words,.osl (base+k) (L.getD k default).src.length 1 0 (L.getD k default).src.length]++B∧
  ∀s,jn base (L.set k ⟨(L.getD k default).words,s⟩)=A++ [strs (L.getD k default).words,.osl (base+k) s.length 1 0 s.length]++B:=by
 have e:List.range L.length=List.range k++k::(List.range (L.length-(k+1))).map (fun i=>k+1+i):=by
  conv=>lhs;rw[show L.length=k+1+(L.length-(k+1)) by omega,List.range_add,List.range_succ,List.append_assoc]
  rfl
 refine⟨(List.range k).flatMap fun j=> [strs (L.getD j default).words,.osl (base+j) (L.getD j default).src.length 1 0 (L.getD j default).src.length],((List.range (L.length-(k+1))).map (fun i=>k+1+i)).flatMap fun j=> [strs (L.getD j default).words,.osl (base+j) (L.getD j default).src.length 1 0 (L.getD j default).src.length],?_,?_,fun s=> ?_⟩
 ·have h2: ∀(f:Nat→List AV),(∀j,(f j).length=2)→ ∀n,((List.range n).flatMap f).length=2*n:=fun f hf n=>by
   induction n with
   |zero=>rfl
   |succ n ih=>rw[List.range_succ,List.flatMap_append,lap,ih];simp[hf];omega
  exact h2 _ (fun _=>rfl) _
 ·unfold jn;rw[e,List.flatMap_append,List.flatMap_cons,List.append_assoc]
 ·unfold jn;rw[List.length_set,e,List.flatMap_append,List.flatMap_cons,List.append_assoc];have g: ∀j,(L.set k ⟨(L.getD k default).words,s⟩).getD j default=if j=k then ⟨(L.getD k default).words,s⟩ else L.getD j default:=fun j=>jF hk
  congr 1
  ·refine qcw _ _ _ fun i hi=> ?_
   rw[g,ine om]
  ·rw[g,ipo rfl];show _::_::_=_::_::_;congr 2;rw[List.flatMap_def,List.flatMap_def,List.map_map,List.map_map];refine congrArg List.flatten (List.map_congr_left fun i _=> ?_);simp only[Function.comp];rw[g,ine om]
theorem qfT{base:Nat}{L:List Rd}{i:Nat}(hi:i<L.length):((jn base L).drop (i*2)).take 2= [strs (L.getD i default).words,.osl (base+i) (L.getD i default).src.length 1 0 (L.getD i default).src.length]:=by
 obtain⟨A,B,h1,h2,_⟩:=qa0 base L hi;rw[h2,show i*2=A.length by omega,List.append_assoc,List.drop_append,Nat.sub_self];simp
theorem qfI{L:List Int}{n:Nat}{g:AV→AV}(hg: ∀x,g (.int .i64 x)= .int .i64 x)(hn:n=L.length):ILe (qk8 (some (.mem n 3 (qW L))) n 1 0 n g) (qq L):=by
 subst hn;rw[slOf_mem,ipo ⟨rfl,by rw[zx];omega⟩];refine ILe.sl_eq fun i hi=> ?_
 simp only[Nat.zero_add,Nat.mul_one];have e:((qW L).drop i).take 1= [.int .i64 (L.getD i 0)]:=by
  rw[List.drop_eq_getElem_cons (by rw[zx];exact hi),List.take_succ_cons,List.take_zero];have h:=qjX (C:=L) hi;rw[jr (by rw[zx];exact hi)]at h;rw[Option.some.inj h]
 rw[e,List.map_cons,List.map_nil,hg]
theorem qkN{base v:Nat}{L:List Rd}{n:Nat}{fz:Nat→Bool}{H:List AObj}{d:Nat}(hn:n=L.length)(hf: ∀j,j<L.length→fz (base+j)=true)(hj: ∀j,j<L.length→getO (base+j) H=some (.mem (L.getD j default).src.length 3 (qW (L.getD j default).src))):
  VLe (qk8 (some (kx v 89 (jn base L))) v 2 0 n (rei fz H (d+2))) (zL L):=by
 subst hn
 by_cases h0:L= []
 ·subst h0;show VLe (qk8 (some (.emp v)) v 2 0 0 _) _;rw[slOf_emp,ipo rfl];exact qck
 ·have e0:kx v 89 (jn base L)= .mem v 89 (jn base L):=kV (fun e=>h0 (by
   have:=qaf base L
   rw[e]at this
   exact List.eq_nil_of_length_eq_zero (by simp at this;omega)))
  rw[e0,slOf_mem,ipo ⟨rfl,by rw[qaf];omega⟩];refine VLe.sl (fun i hi=> ?_);simp only[Nat.zero_add];rw[qfT hi];refine⟨ILe.refl _,?_,trivial⟩;show ILe (rei fz H (d+1+1) (.osl (base+i) _ 1 0 _)) _;rw[rei_osl,ipo (hf i hi),hj i hi];exact qfI (fun _=>rfl) rfl
theorem qjf{A B:List AV}{a b c:AV}{n:Nat}(hn:n=A.length+1):List.take n (A++ [a,b]++B)++ [c]++List.drop (n+1) (A++ [a,b]++B)=A++ [a,c]++B:=by
 have e1:A++ [a,b]++B=(A++ [a])++(b::B):=by simp
 have e2:A++ [a,b]++B=(A++ [a]++ [b])++B:=by simp
 have h1:List.take n (A++ [a,b]++B)=A++ [a]:=by rw[e1];exact List.take_left' (by rw[lap,List.length_singleton,hn])
 have h2:List.drop (n+1) (A++ [a,b]++B)=B:=by rw[e2];exact List.drop_left' (by rw[lap,lap,List.length_singleton,List.length_singleton,hn])
 rw[h1,h2];simp
theorem qcL{hi:Int}: ∀ {S:List Int} {lo:Int},S.Pairwise (· < ·)→(∀x∈S,lo≤x∧x<hi)→S.length≤(hi-lo).toNat:=by
 intro S
 induction S with
 |nil=>intro lo _ _;exact nzl _
 |cons a S ih=>
  intro lo h1 h2;obtain⟨p1,p2⟩:=List.pairwise_cons.1 h1;have ha:=h2 a List.mem_cons_self
  have:=ih (lo:=a+1) p2 fun x hx=>⟨by have:=p1 x hx;omega,(h2 x (List.mem_cons_of_mem _ hx)).2⟩
  rw[lco];omega
theorem qx6{h M:List AObj}{a0 a1 a2 a3 a4 a5 a6 a7 a8:AObj}:(h++a0::a1::a2::a3::a4::a5::a6::a7::a8::M).length=h.length+9+M.length:=by
 simp only[lap,lco];omega
theorem qdH{h M:List AObj}{a0 a1 a2 a3 a4 a5 a6 a7 a8:AObj}{j:Nat}:getO (h.length+9+j) (h++a0::a1::a2::a3::a4::a5::a6::a7::a8::M)=M[j]? :=by
 unfold getO;rw[List.getElem?_append_right om,show h.length+9+j-h.length=j+9 by omega];rfl
theorem qwe{h M:List AObj}{a0 a1 a2 a3 a4 a5 a6 a7 a8 o:AObj}{j:Nat}:setO (h.length+9+j) (h++a0::a1::a2::a3::a4::a5::a6::a7::a8::M) o=h++a0::a1::a2::a3::a4::a5::a6::a7::a8::M.set j o:=by
 unfold setO;rw[List.set_append_right _ _ om,show h.length+9+j-h.length=j+9 by omega];rfl
theorem qzS(x:Co)(f t:Nat)(h:List AObj)(ho:CoOk x)(ht:t≤x.col.length)(hn:x.col.length≤1000000000):ACalls Tryz.prog 232 [.agg (coC x),.int .i64 (f:Int),.int .i64 (t:Int)] h (zL (qcy x f t)) h:=by
 have zl: ∀g,valL g .len [strs x.sig]= .int .i64 x.sig.length:=fun _=>rfl
 have zo: ∀g,okL g .len [strs x.sig]=True:=fun _=>eqt trivial
 refine acO quH ?_;simp (disch:=omega) only[qtn,coC,zl,zo,go_sem];refine qn (T:=fun i:Nat×Nat×AObj×AObj×AObj×AObj=>qM 48 [(1,.int .i64 (f:Int)),(2,.int .i64 (t:Int)),(3,.op h.length 1 0),(7,.osl (h.length+2) i.2.1 2 0 (jJ x f (t-f) i.1).length),(13,.int .i64 x.sig.length),(14,.int .i64 i.1)])
  (H:=fun i=>h++ .mem 1 26 (coC x):: .emp 1::kx i.2.1 89 (jn (h.length+9) (jJ x f (t-f) i.1))::i.2.2.1::i.2.2.2.1::i.2.2.2.2.1:: .emp 0::i.2.2.2.2.2:: .emp 0::qcx (jJ x f (t-f) i.1))
  (inv:=fun i=>i.1≤x.sig.length∧qP [i.2.2.1] 0=true∧qP [i.2.2.2.1] 0=true∧qP [i.2.2.2.2.1] 0=true∧qP [i.2.2.2.2.2] 0=true) (m:=fun i=>x.sig.length-i.1) (0,1,.emp 0,.emp 0,.emp 0,.emp 0) ⟨nzl _,rfl,rfl,rfl,rfl⟩ (Wk.temps ?_) ?_
 ·(simp only[jJ,lnl,go_sem,qh,qe,qb,qg];try (repeat' first|(with_reducible apply aiA)|(apply qf;omega)|(apply qd;rfl)|exact qi))
 rintro⟨s,v,O3,O4,O5,O7⟩ ⟨i1,j3,j4,j5,j7⟩ K hK;simp only at i1 j3 j4 j5 j7 hK;have j3': ∀m,qP (O3::m) 0=true:=fun _=>j3
 have j4': ∀m,qP (O4::m) 0=true:=fun _=>j4
 have j5': ∀m,qP (O5::m) 0=true:=fun _=>j5
 have j7': ∀m,qP (O7::m) 0=true:=fun _=>j7
 have hst:jJ x f (t-f) (s+1)=qcI (jJ x f (t-f) s) (rdG x s f (t-f)) s:=rfl;have hln:=qc7 x f (t-f) s;have hsg:=ho.sg;obtain⟨L,hL⟩: ∃L,L=jJ x f (t-f) s:=⟨_,rfl⟩
 rw[←hL]at hst hln;have eL:=hL.symm
 by_cases hs:s<x.sig.length
 ·have k1:((s:Int)<x.sig.length)=True:=eqt om;have c21:=fun h=>rdP x f t s h ho ht hs hn
  obtain⟨w,hw⟩: ∃w,w=rdG x s f (t-f):=⟨_,rfl⟩
  rw[←hw]at hst;simp only[←hw]at c21;unfold coC at c21;simp (disch:=omega) only[coC,k1,eL,go_sem]
  repeat' first
   |(refine cA (c21 _) flk ?_;simp (disch:=omega) only[j3',j4',go_sem])
  have hwl:w.length≤1000000000:=by have:=qap x s f (t-f);rw[←hw]at this;omega
  have hRd:=qc6 x f (t-f) s;rw[eL]at hRd;have hwL: ∀j,(L.getD j default).words.length≤1000000000:=zj L (fun r=>r.words.length≤1000000000) (by decide) fun j hj=>by
   have h1:=hRd.nn j hj;obtain⟨y,ys,e⟩:=List.exists_cons_of_ne_nil h1;have h2:=hRd.wd j hj y (by rw[e];exact List.mem_cons_self);rw[h2]
   have:=qap x y.toNat f (t-f)
   omega
  have hob:= @qc5 L;refine cA (r:= .int .i64 (qem L w)) ?c (by exact flk) ?_
  case c=>
   refine ACalls.borrow ((fdP L ⟨w,[(s:Int)]⟩ [] om hwl hwL).le ?v (qi)) rfl;simp only[List.map_cons,List.map_nil,go_sem];refine⟨qkN rfl (fun _ _=>rfl) (fun j hj=>by rw[qdH];exact hob hj),VLe.agg ⟨qi,VLe.sl_eq rfl (fun i hi=> ?_),trivial⟩,qi,trivial⟩;obtain rfl:i=0:=by simpa using hi
   rfl
  have eKl:=qaf (h.length+9) L;rcases qae L w with⟨k,b1,b2,b3⟩|⟨b1,b2⟩
  ·have q1:(qem L w<0)=False:=eqf om;have hst2:jJ x f (t-f) (s+1)=L.set k ⟨w,(L.getD k default).src++ [(s:Int)]⟩:=by
    rw[hst];unfold qcI;rw[b3,ine om,itn]
   obtain⟨A,B,a1,a2,a3⟩:=qa0 (h.length+9) L b1;have a3:=a3 ((L.getD k default).src++ [(s:Int)]);have hne:(jn (h.length+9) L≠ [])=True:=eqt fun e=>by rw[e]at eKl;simp at eKl;omega
   have hob:=hob b1;rw[b2]at a2 a3;have hos:= @qfW L k ⟨w,(L.getD k default).src++ [(s:Int)]⟩;rw[←hst2]at hos a3;dsimp only at hos;obtain⟨S,hS⟩: ∃S,S=(L.getD k default).src:=⟨_,rfl⟩
   rw[←hS]at a2 a3 hob hos;rw[lap,List.length_singleton]at a3 hos;rw[qaB,show qW [(s:Int)]= [AV.int .i64 (s:Int)]from rfl]at hos;have gg:(jn (h.length+9) L)[k*2+1]? =some (.osl (h.length+9+k) S.length 1 0 S.length):=by
    rw[a2,List.append_assoc,List.getElem?_append_right om,show k*2+1-A.length=1 by omega];rfl
   have gs:List.take (k*2+1) (jn (h.length+9) L)++ [.osl (h.length+9+k) (S.length+1) 1 0 (S.length+1)]++List.drop (k*2+1+1) (jn (h.length+9) L)=jn (h.length+9) (jJ x f (t-f) (s+1)):=by
    rw[a2,a3];exact qjf om
   have eI:=zx S;have hSl:S.length≤1000:=by
    have:=(qbC x f (t-f) s).src (L.getD k default) (by rw[eL,gdqA,jr b1];exact List.getElem_mem b1)
    have:=qcL (hi:=(s:Int)) (lo:=0) this.1 this.2
    rw[←hS]at this;omega
   have eown:kx v 89 (jn (h.length+9) L)= .mem v 89 (jn (h.length+9) L):=kV (of_eq_true hne);have el2:(jJ x f (t-f) (s+1)).length=L.length:=by rw[hst2,List.length_set]
   have eown2:kx v 89 (jn (h.length+9) (jJ x f (t-f) (s+1)))= .mem v 89 (jn (h.length+9) (jJ x f (t-f) (s+1))):=kV fun e=>by
    have:=qaf (h.length+9) (jJ x f (t-f) (s+1))
    rw[e,el2]at this;simp at this;omega
   have eTi:List.take S.length (qW S)=qW S:=ltl om;have kL:((k:Int)<L.length)=True:=eqt om;have k0:(0≤(k:Int))=True:=eqt om;rw[eown];simp (disch:=omega) only[b3,j7',gg,eKl,kL,k0,Option.getD_some,Option.isSome_some,qdH,qwe,hob,eTi,Nat.mul_one,itn,go_sem]
   repeat' first
    |with_reducible first|intro _|apply aiA
   all_goals try exact clz
   all_goals try (simp only[qaD,jf,qdH,hob,qaY,je,if_true,Option.getD_some,eI,beq_self_eq_true];done)
   all_goals try (simp only[bne_iff_ne];omega)
   all_goals try (simp only[jf,qdH,hob,je,if_true,Option.getD_some,eI];exact nlr _)
   rw[gs];have eD:(AV.int .i64 (s:Int)::List.drop 1 (qQ [i6 0] 1))= [AV.int .i64 (s:Int)]:=rfl;simp only[eD];rw[hos];refine hK _ _ (s+1,v,.mem (qr (some O3)+1) 3 [.int .i64 (s:Int)],.mem (qr (some O4)+1) 89 [strs w,.osl (h.length+3) (qr (some O3)+1) 1 0 1],O5,.mem (qr (some O7)+1) 3 [.int .i64 (s:Int)]) ⟨hs,rfl,rfl,j5,rfl⟩ (by simp only;omega) ?_;simp only[eown2,el2,coC];refine Wk.temps ?_
   (simp only[go_sem,qh,qe,qb,qg];try (repeat' first|(with_reducible apply aiA)|(apply qf;omega)|(apply qd;rfl)|exact qi))
  ·have q1:(qem L w<0)=True:=eqt b2;have hst2:jJ x f (t-f) (s+1)=L++ [⟨w,[(s:Int)]⟩]:=by
    rw[hst];unfold qcI;rw[ipo b2]
   have eTk:List.take (L.length*2) (jn (h.length+9) L)=jn (h.length+9) L:=ltl om;simp (disch:=omega) only[q1,j5',eTk,eKl,Nat.mul_one,go_sem]
   repeat' first
    |with_reducible apply aiA
   all_goals try exact clz
   have el2:(jJ x f (t-f) (s+1)).length=L.length+1:=by rw[hst2,lap];rfl
   have eo:qcx (jJ x f (t-f) (s+1))=qcx L++ [.mem 1 3 [.int .i64 (s:Int)]]:=by rw[hst2,qfU];rfl
   have ek:jn (h.length+9) (jJ x f (t-f) (s+1))=jn (h.length+9) L++ [strs w,.osl (h.length+9+L.length) 1 1 0 1]:=by rw[hst2,qdY];rfl
   have eown:kx (v+1) 89 (jn (h.length+9) L++ [strs w,.osl (h.length+3) (qr (some O3)+1) 1 0 1])= .mem (v+1) 89 (jn (h.length+9) L++ [strs w,.osl (h.length+3) (qr (some O3)+1) 1 0 1]):=kV (by simp);have eown2:kx (v+1) 89 (jn (h.length+9) L++ [strs w,.osl (h.length+9+L.length) 1 1 0 1])= .mem (v+1) 89 (jn (h.length+9) L++ [strs w,.osl (h.length+9+L.length) 1 1 0 1]):=kV (by simp);have eset:(jn (h.length+9) L++ [strs w,AV.osl (h.length+3) (qr (some O3)+1) 1 0 1]).set (L.length*2+1) (.osl (h.length+9+L.length) 1 1 0 1)=jn (h.length+9) L++ [strs w,.osl (h.length+9+L.length) 1 1 0 1]:=by
    rw[List.set_append_right _ _ om,eKl,show L.length*2+1-2*L.length=1 by omega];rfl
   rw[eown];refine hK _ _ (s+1,v+1,.emp (qr (some O3)+1+1),.mem (qr (some O4)+1) 89 [strs w,.osl (h.length+3) (qr (some O3)+1) 1 0 1],.mem (qr (some O5)+1) 89 [strs w,.osl (h.length+3) (qr (some O3)+1) 1 0 1],O7) ⟨hs,rfl,rfl,rfl,j7⟩ (by simp only;omega)
    (Wk.trans (Wk.moveCell (i:=h.length+2) (j:=h.length+3) (a:=L.length*2+1) (w:=v+1) (v:=qr (some O3)+1) (ty:=3) (ty':=89) (ds:=jn (h.length+9) L++ [strs w,.osl (h.length+3) (qr (some O3)+1) 1 0 1]) (cs:= [.int .i64 (s:Int)]) (sz:=1) (off:=0) (len:=1) ?m1 ?m2 ?m3 om) ?m4)
   case m1=>simp only[go_sem]
   case m2=>
    rw[List.getElem?_append_right om,show L.length*2+1-(jn (h.length+9) L).length=1 by omega];rfl
   case m3=>simp only[go_sem];rfl
   case m4=>
    have eD:(AV.int .i64 (s:Int)::List.drop 1 (qQ [i6 0] 1))= [AV.int .i64 (s:Int)]:=rfl;have eD2: ∀c:AV,(strs w::c::List.drop 2 (qQ [AV.nl,AV.nl] 1))= [strs w,c]:=fun _=>rfl
    simp only[eo,ek,eown2,el2,coC,eD,eD2,qx6,qfV,go_sem,eset,List.append_assoc,lca];refine Wk.temps ?_
    (simp only[go_sem,qh,qe,qb,qg];try (repeat' first|(with_reducible apply aiA)|(apply qf;omega)|(apply qd;rfl)|exact qi))
 ·have k1:((s:Int)<x.sig.length)=False:=eqf om;obtain rfl:s=x.sig.length:=by omega
  have hF:qcy x f t=L:=by rw[hL];rfl
  rw[hF];simp (disch:=omega) only[k1,eL,go_sem]
  repeat' first
   |(apply qa;exact rvk;simp only[go_sem])
  exact qkN rfl (fun j _=>dqt om) (fun j hj=>by rw[qdH];exact qc5 hj)
theorem qzn(l:List Un)(f t:Nat)(k v k2 v2:Nat)(h:List AObj)(hk:getO k h=some (.mem v 3 [.int .i64 (f:Int)]))(hk2:getO k2 h=some (.mem v2 3 [.int .i64 (t:Int)]))(hn:l.length≤1000000000):
  ACalls Tryz.prog 54 [qz l,.fn (.func 234) [] [.op k v 0,.op k2 v2 0]] h (.bool (rnB l (f,t))) h:=by
 have hc:=qS hk;have hc2:=qS hk2;unfold qz rnB;refine qtX qxL ⟨rfl,rfl⟩ ⟨rfl,rfl⟩ (qeJ qo2 l.length (fun j=>unC (l.getD j default)) (fun j=> .agg (unC (l.getD j default))) _ [] [.op k v 0,.op k2 v2 0] _ h (fun i _=>⟨rfl,by simp[jE,unC],rfl,rfl,rfl⟩) (fun i _=> ?_) om);refine ACalls.borrow ?_ rfl;have e:([AV.agg (unC (l.getD i default))]++ [AV.op k v 0,AV.op k2 v2 0]).map (rei (fun _=>true) h 8)= [.agg (unC (l.getD i default)),.ip [.int .i64 (f:Int)],.ip [.int .i64 (t:Int)]]:=by
  simp only[lca,lna,List.map_cons,List.map_nil,rei_op,if_true,hc,hc2,ipOf_some,List.drop_zero,rei_agg];rfl
 rw[lna,e];exact qzU _ _ _ _
theorem qml(l:List Un)(i:Nat):beH l (i+1)=(l.getD i default).to:=by unfold beH;rw[ine om,Nat.add_sub_cancel]
theorem qrp(u:Un)(n v:Nat)(ty:TypeId):qao n (.mem v ty (unC u)):=by
 intro c hc;simp only[unC,List.mem_cons,List.not_mem_nil,or_false]at hc;rcases hc with rfl|rfl|rfl<;>rfl
theorem qrV(x:Co): ∀a∈rnX x,a.length=2:=by
 intro a ha;unfold rnX at ha;obtain⟨_,_,rfl⟩:=List.mem_map.1 ha;rfl
theorem qkV(x:Co):(rnX x).length=(qeW (cmB x) x.col.length).length:=by simp[rnX]
theorem qrU{x:Co}{i:Nat}(hi:i<(rnX x).length):(rnX x)[i]= [.int .i64 (((qeW (cmB x) x.col.length).getD i (0,0)).1:Int),.int .i64 (((qeW (cmB x) x.col.length).getD i (0,0)).2:Int)]:=by
 have h2:i<(qeW (cmB x) x.col.length).length:=by rw[←qkV];exact hi
 simp only[rnX,List.getElem_map];rw[gdqA,jr h2];rfl
theorem qkM(x:Co)(f d:Nat)(hd:d≤1000000000)(s:Nat)(hs:s≤1000000000):qhN (jJ x f d s):=by
 have hI:=qbC x f d s;have hH:=qc6 x f d s;have hl:=qc7 x f d s;refine⟨om,?_,?_⟩
 ·exact zj _ (fun r:Rd=>r.src.length≤1000000000) (by decide) fun j hj=>by
   have:=hI.src ((jJ x f d s).getD j default) (by rw[gdqA,jr hj];exact List.getElem_mem hj)
   have:=qcL (hi:=(s:Int)) (lo:=0) this.1 this.2
   omega
 ·exact zj _ (fun r:Rd=>r.words.length≤1000000000) (by decide) fun j hj=>by
   have h1:=hH.nn j hj;obtain⟨y,ys,e⟩:=List.exists_cons_of_ne_nil h1;have h2:=hH.wd j hj y (by rw[e];exact List.mem_cons_self);rw[h2]
   have:=qap x y.toNat f d
   omega
theorem qzV(x:Co)(l:List Un)(h:List AObj)(ho:CoOk x)(hn:x.col.length≤1000000000)(hu:qeo l):ACalls Tryz.prog 177 [.agg (coC x),qz l] h (.bool (rgB x l)) h:=by
 have hsg:=ho.sg;have hl:=hu.n;obtain⟨R,hR⟩: ∃R,R=rgB x l:=⟨_,rfl⟩
 rw[←hR];unfold rgB at hR;refine acO quy ?_;simp (disch:=omega) only[qtf,coC,qz,go_sem]
 repeat' first
  |with_reducible apply aiA
 all_goals try exact clz
 refine qn (T:=fun i:Nat×AObj=>qM 63 [(2,.op h.length 1 0),(3,.op (h.length+1) 1 0),(4,.op (h.length+2) 1 0),(5,.int .i64 (beH l i.1)),(10,qz l),(11,.int .i64 l.length),(12,.int .i64 i.1)])
  (H:=fun i=>h++ [.mem 1 26 (coC x),.mem 1 27 [qz l],.mem 1 4 [.bool false],i.2,.emp 0,.emp 0])
  (inv:=fun i=>i.1≤l.length∧qP [i.2] 0=true∧(∀n,qao n i.2)∧ ∀j,j<i.1→unB x (beH l j) (l.getD j default)=true) (m:=fun i=>l.length-i.1) (0,.emp 0) ⟨nzl _,rfl,fun _=>trivial,fun j hj=>absurd hj (nnz j)⟩ (Wk.temps ?_) ?_
 ·(simp only[qz,beH,go_sem,qh,qe,qb,qg];try (repeat' first|(with_reducible apply aiA)|(apply qf;omega)|(apply qd;rfl)|exact qi))
 rintro⟨i,O⟩ ⟨i1,i2,il,i3⟩ K hK;simp only at i1 i2 il i3 hK;have i2': ∀m,qP (O::m) 0=true:=fun _=>i2
 by_cases hi:i<l.length
 ·have k1:((i:Int)<l.length)=True:=eqt om;have hno:unB x (beH l i) (l.getD i default)=false→R=false:=fun hx=>by
   rw[hR];unfold qlD;rw[qv.2 ⟨i,hi,by rw[hx];rfl⟩];rfl
  have hS:unB x (beH l i) (l.getD i default)=true→ ∀j,j<i+1→unB x (beH l j) (l.getD j default)=true:=fun hx j hj=>by
   by_cases e:j=i
   ·subst e;exact hx
   ·exact i3 j om
  have hbs:=qml l i;have zrd:qhN (l.getD i default).rds:=⟨hu.rd i,hu.sr i,hu.wd i⟩
  obtain⟨u,hux⟩: ∃u,u=l.getD i default:=⟨_,rfl⟩
  have eu:=hux.symm;rw[eu]at hno hS hbs zrd;obtain⟨b,hb⟩: ∃b,b=beH l i:=⟨_,rfl⟩
  have eb:=hb.symm;rw[eb]at hno hS;have hB:unB x b u= !(decide (u.frm≤b)||(decide (u.frm<0)||(decide (u.to≤u.frm)||(decide ((x.col.length:Int)<u.to)|| !decide (u.rds=qcy x u.frm.toNat u.to.toNat))))):=rfl
  by_cases g1:u.frm≤b
  ·have q1:(u.frm≤b)=True:=eqt g1;rw[hno (by rw[hB,dqt g1];rfl)];simp (disch:=omega) only[qz,unC,coC,qp,zL,k1,eu,eb,i2',q1,go_sem]
   repeat' first
    |(refine qj ( zL []) ?_;simp (disch:=omega) only[zL,go_sem])
    |(apply qa;exact rvk;simp only[go_sem];exact qi)
    |with_reducible apply aiA
   all_goals try exact clz
  have q1:(u.frm≤b)=False:=eqf g1
  by_cases g2:u.frm<0
  ·have q2:(u.frm<0)=True:=eqt g2;rw[hno (by rw[hB,dqt g2];simp)];simp (disch:=omega) only[qz,unC,coC,qp,zL,k1,eu,eb,i2',q1,q2,go_sem]
   repeat' first
    |(refine qj ( zL []) ?_;simp (disch:=omega) only[zL,go_sem])
    |(apply qa;exact rvk;simp only[go_sem];exact qi)
    |with_reducible apply aiA
   all_goals try exact clz
  have q2:(u.frm<0)=False:=eqf g2
  by_cases g3:u.to≤u.frm
  ·have q3:(u.to≤u.frm)=True:=eqt g3;rw[hno (by rw[hB,dqt g3];simp)];simp (disch:=omega) only[qz,unC,coC,qp,zL,k1,eu,eb,i2',q1,q2,q3,go_sem]
   repeat' first
    |(refine qj ( zL []) ?_;simp (disch:=omega) only[zL,go_sem])
    |(apply qa;exact rvk;simp only[go_sem];exact qi)
    |with_reducible apply aiA
   all_goals try exact clz
  have q3:(u.to≤u.frm)=False:=eqf g3
  by_cases g4:(x.col.length:Int)<u.to
  ·have q4:((x.col.length:Int)<u.to)=True:=eqt g4;rw[hno (by rw[hB,dqt g4];simp)];simp (disch:=omega) only[qz,unC,coC,qp,zL,k1,eu,eb,i2',q1,q2,q3,q4,go_sem]
   repeat' first
    |(refine qj ( zL []) ?_;simp (disch:=omega) only[zL,go_sem])
    |(apply qa;exact rvk;simp only[go_sem];exact qi)
    |with_reducible apply aiA
   all_goals try exact clz
  have q4:((x.col.length:Int)<u.to)=False:=eqf g4;obtain⟨f,hf⟩: ∃f:Nat,u.frm=(f:Int):=⟨u.frm.toNat,om⟩
  obtain⟨t,ht⟩: ∃t:Nat,u.to=(t:Int):=⟨u.to.toNat,om⟩
  have c48:=fun h=>qzS x f t h ho om hn
  have zF:qhN (qcy x f t):=qkM x f (t-f) om x.sig.length om;have c49:=fun h=>qzY u.rds (qcy x f t) h zrd zF
  have eft:qcy x u.frm.toNat u.to.toNat=qcy x f t:=by rw[hf,ht,itn,itn]
  rw[dqf g1,dqf g2,dqf g3,dqf g4,eft]at hB;obtain⟨F,hF⟩: ∃F,F=qcy x f t:=⟨_,rfl⟩
  rw[←hF]at hB;simp only[←hF]at c48 c49;obtain⟨c,hc⟩: ∃c,c=decide (u.rds=F):=⟨_,rfl⟩
  rw[←hc]at hB;simp only[←hc]at c49;rw[hf]at q1 q2 q3;rw[ht]at q3 q4;unfold coC qp at c48;unfold zL at c48 c49;cases c with
  |false=>
   rw[hno hB];simp (disch:=omega) only[qz,unC,coC,qp,zL,k1,eu,eb,i2',q1,q2,q3,q4,hf,ht,go_sem]
   repeat' first
    |((first|refine cG (fun e=>c48 _) ?_ ?_|refine cG (fun e=>c49 _) ?_ ?_);exact flk;simp (disch:=omega) only[go_sem])
    |(apply qa;exact rvk;simp only[go_sem];exact qi)
    |with_reducible apply aiA
   all_goals try exact clz
  |true=>
   simp (disch:=omega) only[qz,unC,coC,qp,zL,k1,eu,eb,i2',q1,q2,q3,q4,hf,ht,go_sem]
   repeat' first
    |((first|refine cG (fun e=>c48 _) ?_ ?_|refine cG (fun e=>c49 _) ?_ ?_);exact flk;simp (disch:=omega) only[go_sem])
    |with_reducible apply aiA
   all_goals try exact clz
   refine hK _ _ (i+1,.mem (qr (some O)+1) 83 (unC u)) ⟨hi,rfl,fun n=>qrp u n _ _,hS hB⟩ (by simp only;omega) ?_;simp only[hbs,ht,unC,hf];refine Wk.temps ?_
   (simp only[qz,go_sem,qh,qe,qb,qg];try (repeat' first|(with_reducible apply aiA)|(apply qf;omega)|(apply qd;rfl)|exact qi))
 have k1:((i:Int)<l.length)=False:=eqf om;obtain rfl:i=l.length:=by omega
 have hun:qlD x l=true:=by
  unfold qlD;rw[qk.2 fun j hj=>by rw[i3 j hj];rfl];rfl
 rw[hun,Bool.true_and]at hR;have hcv:=qqE hun;clear hK;have c56:=fun h=>qzW x h
 unfold coC qp at c56;simp (disch:=omega) only[coC,qp,k1,go_sem]
 repeat' first
  |(refine cA (c56 _) flk ?_;simp (disch:=omega) only[go_sem])
 obtain⟨rs,hrs⟩: ∃rs,rs=qeW (cmB x) x.col.length:=⟨_,rfl⟩
 have hrl:=qkV x;have hrg:=fun i hi=>qrU (x:=x) (i:=i) hi
 rw[←hrs]at hrl hcv;simp only[←hrs]at hrg;refine qbY (xs:=rnX x) (itR x ho hn) (qrV x)
  (S:=fun i hh=>(∃O8 O9,qP [O8] 0=true∧qP [O9] 0=true∧(∀n,qao n O8)∧(∀n,qao n O9)∧hh=h++ [.mem 1 26 (coC x),.mem 1 27 [qz l],.mem 1 4 [.bool false],O,O8,O9])∧ ∀j,j<i→rnB l (rs.getD j (0,0))=true)
  (E:=fun s hh=>s= .ret∧R=false∧ ∃O8 O9,(∀n,qao n O8)∧(∀n,qao n O9)∧hh=h++ [.mem 1 26 (coC x),.mem 1 27 [qz l],.mem 1 4 [.bool false],O,O8,O9]) ?_ ?_ ?_ ?_ ?_ ?_ ?_
 ·rintro i hh ⟨⟨O8,O9,_,_,l8,l9,rfl⟩,_⟩;refine LowI.app rfl (fun o ho=> ?_);simp only[List.mem_cons,List.not_mem_nil,or_false]at ho;rcases ho with rfl|rfl|rfl|rfl|rfl|rfl
  ·left;simp[coC,qp]
  ·left;simp
  ·left;simp
  ·left;simp
  ·right;exact⟨l8 _,l8 _⟩
  ·right;exact⟨l9 _,l9 _⟩
 ·rintro s hh ⟨_,_,O8,O9,l8,l9,rfl⟩;refine LowI.app rfl (fun o ho=> ?_);simp only[List.mem_cons,List.not_mem_nil,or_false]at ho;rcases ho with rfl|rfl|rfl|rfl|rfl|rfl
  ·left;simp[coC,qp]
  ·left;simp
  ·left;simp
  ·left;simp
  ·right;exact⟨l8 _,l8 _⟩
  ·right;exact⟨l9 _,l9 _⟩
 ·exact⟨⟨.emp 0,.emp 0,rfl,rfl,fun _=>trivial,fun _=>trivial,rfl⟩,fun j hj=>absurd hj (nnz j)⟩
 ·have lu: ∀n,jb n (qz l)=true:=fun _=>rfl
  have lt: ∀n,jb n (qm x.tok)=true:=fun _=>rfl
  simp[jb,jb.lowVs,lu,lt,qnu]
  try omega
 ·rintro i hh tl LI TS hi ⟨⟨O8,O9,s8,s9,l8,l9,rfl⟩,hj⟩ hlen K K2 hK hN hR' hX;rw[hrg i hi];rw[hrl]at hi;obtain⟨⟨f,t⟩,hr⟩: ∃r,r=rs.getD i (0,0):=⟨_,rfl⟩
  have er:=hr.symm;rw[er];have s8': ∀m,qP (O8::m) 0=true:=fun _=>s8
  have s9': ∀m,qP (O9::m) 0=true:=fun _=>s9
  simp only[qb0];simp (disch:=omega) only[List.append_assoc,coC,s8',s9',go_sem];refine hK _ _ (h++ [.mem 1 26 (coC x),.mem 1 27 [qz l],.mem 1 4 [.bool false],O,.mem (qr (some O8)+1) 3 [.int .i64 (f:Int)],.mem (qr (some O9)+1) 3 [.int .i64 (t:Int)]]) (by simp[coC]) (by simp) ?_;simp (disch:=omega) only[List.append_assoc,go_sem]
  repeat' first
   |with_reducible apply aiA
  all_goals try exact clz
  refine cA (qzn l f t (h.length+4) _ (h.length+5) _ _ ?ka ?kb hl) (by exact flk) ?_
  case ka=>simp only[go_sem]
  case kb=>simp only[go_sem]
  have l8': ∀n,qao n (.mem (qr (some O8)+1) 3 [.int .i64 (f:Int)]):=fun n c hc=>by simp at hc;subst hc;rfl
  have l9': ∀n,qao n (.mem (qr (some O9)+1) 3 [.int .i64 (t:Int)]):=fun n c hc=>by simp at hc;subst hc;rfl
  cases hb:rnB l (f,t)with
  |true=>
   simp (disch:=omega) only[go_sem];refine hN _ _ (h++ [.mem 1 26 (coC x),.mem 1 27 [qz l],.mem 1 4 [.bool false],O,.mem (qr (some O8)+1) 3 [.int .i64 (f:Int)],.mem (qr (some O9)+1) 3 [.int .i64 (t:Int)]]) (by simp[coC]) (by simp) ⟨⟨_,_,rfl,rfl,l8',l9',rfl⟩,fun j hj'=> ?_⟩
   by_cases e:j=i
   ·subst e;rw[er];exact hb
   ·exact hj j om
  |false=>
   have hRf:R=false:=by
    rw[hR];cases hc:cvA x l with
    |false=>rfl
    |true=>
     have h2:=List.all_eq_true.1 (hcv.2 hc) (f,t) (by rw[hr,gdqA,jr hi];exact List.getElem_mem hi);rw[hb]at h2;cases h2
   simp (disch:=omega) only[go_sem];refine hR' _ _ (h++ [.mem 1 26 (coC x),.mem 1 27 [qz l],.mem 1 4 [.bool false],O,.mem (qr (some O8)+1) 3 [.int .i64 (f:Int)],.mem (qr (some O9)+1) 3 [.int .i64 (t:Int)]]) (by simp[coC]) (by simp) ⟨rfl,hRf,_,_,l8',l9',rfl⟩
 ·rintro hh ⟨⟨O8,O9,s8,s9,l8,l9,rfl⟩,hj⟩;have hRt:R=true:=by
   rw[hR];refine hcv.1 (List.all_eq_true.2 fun r hr=> ?_);obtain⟨j,hj1,rfl⟩:=List.getElem_of_mem hr
   have:=hj j (by rw[hrl];exact hj1)
   rw[gdqA,jr hj1]at this;exact this
  rw[hRt];simp (disch:=omega) only[go_sem]
  repeat' first
   |(apply qa;exact rvk;simp only[go_sem];exact qi)
 ·rintro e hh ⟨rfl,hRf,O8,O9,l8,l9,rfl⟩;rw[hRf];simp (disch:=omega) only[go_sem]
  repeat' first
   |(apply qa;exact rvk;simp only[go_sem];exact qi)
theorem vaP(x:Co)(l:List Un)(h:List AObj)(hz:qen x)(hu:qeo l)(hp:ky SG h):ACalls Tryz.prog 111 [.agg (coC x),qz l] h (.int .i64 (vaE x l)) h:=by
 have c1:=fun l'=>coP x (h++l') hz (hp.app l')
 unfold vaE
 by_cases g:coE x=0
 case neg=>
  have k1:(coE x=0)=False:=eqf g;rw[ipo g];obtain⟨e,he⟩: ∃e,e=coE x:=⟨_,rfl⟩
  rw[←he]at c1 k1;unfold coC at c1;refine acO qoW ?_;simp (disch:=omega) only[qpU,coC,go_sem]
  repeat' first
   |(refine cA (c1 _) flk ?_;simp (disch:=omega) only[k1,go_sem])
   |(apply qa;exact rvk;simp only[go_sem];exact qi)
 rw[ine (fun hc=>hc g)];have c2:=fun h=>qzV x l h (qco g) hz.cl hu
 rw[g]at c1;unfold coC at c1 c2;cases g2:rgB x l<;>rw[g2]at c2
 all_goals
  refine acO qoW ?_;simp (disch:=omega) only[qpU,coC,go_sem]
  repeat' first
   |((first|refine cA (c1 _) ?_ ?_|refine cA (c2 _) ?_ ?_);exact flk;simp (disch:=omega) only[go_sem])
   |(apply qa;exact rvk;simp only[go_sem];exact qi)
end RC
end
section
open Go Go.Proofs AF
def qrb:List Nat:= [1000072,1000073,1000075,1000076,1000077,1000078,1000079]
def qxh:C:=
 ((C.ops [O1 3 (.box 0 26) 0,MC 6 (i6 0)]).seq (((C.ops [O1 18 (.load (some 4)) 3,MV 19 1,O2 20 (.call 111 true) 18 19,MV 7 20]).seq ((C.ops [MV 21 7,BC 22 .neq 21 (i6 0)]).seq
 (C.cond (.t 22) ((C.ops [MV 23 7,MV 6 23]).seq C.ret) C.skip))).seq ((C.ops [O1 24 (.fldA 3) 3,LD 25 24,O1 26 .len 25,⟨some 27,none,.mkslc 1 1 3 [i6 0] 8,[.t 26,.t 26]⟩,MV
 8 27]).seq ((C.ops [⟨some 9,none,.alloc 2 64 [.str [],i6 0,i6 0,i6 0,.bool false,.bool false,.str []],[]⟩]).seq (((C.ops [MV 28 2,O1 29 .len 28,MC 30 (i6 0)]).seq
 (C.block 0 ((C.ops [BI 31 .lss 30 29]).seq ((C.cond (.t 31) C.skip (C.exit 0)).seq ((C.block 1 ((C.ops [MV 32 30,O2 33 (.idxA 7) 28 30,O1 34 (.load (some 7)) 33,⟨some 11,none,
 .alloc 3 64 [.str [],i6 0,i6 0,i6 0,.bool false,.bool false,.str []],[]⟩,MV 10 32,ST 7 11 34]).seq (((C.ops [O1 35 (.load (some 4)) 3,MV 36 1,O1 37 (.load (some 7)) 11,
 O1 38 (.load (some 7)) 9,MV 39 10,BC 40 .eql 39 (i6 0),ON 41 (.call 112 true) [.t 35,.t 36,.t 37,.t 38,.t 40],MV 12 41]).seq ((C.ops [MV 42 12,BC 43 .neq 42 (i6 0)]).seq
 (C.cond (.t 43) ((C.ops [MV 44 12,MV 6 44]).seq C.ret) C.skip))).seq ((C.ops [O1 45 (.load (some 7)) 11,ST 7 9 45]).seq (C.ops [MV 46 8,O1 47 (.fldA 1) 11,LD 48 47,O2 49
 (.idxA 1) 46 48,LD 50 49,BC 51 .add 50 (i6 1),O2 52 (.idxA 1) 46 48,ST 1 52 51]))))).seq (C.ops [BC 53 .add 30 (i6 1),MV 30 53])))).loop)).seq (((C.ops [O1 54 (.fldA 3) 3,LD
 55 54,O1 56 .len 55,MC 57 (i6 0)]).seq (C.block 2 ((C.ops [BI 58 .lss 57 56]).seq ((C.cond (.t 58) C.skip (C.exit 2)).seq ((C.block 3 ((C.ops [MV 59 57,O2 60 (.idxA 1) 55 57,LD
 61 60,⟨some 13,none,.alloc 4 3 [i6 0],[]⟩,ST 1 13 59,MV 14 61]).seq (((C.ops [MV 63 1,LD 64 13,O2 65 (.call 113 true) 63 64,MV 62 65,O1 66 (.ext 0) 62,O1 67 (.ext 1) 62,
 MV 15 66,MV 16 67]).seq ((C.ops [MV 68 15,BC 69 .geq 68 (i6 0)]).seq (C.cond (.t 69) (C.exit 3) C.skip))).seq ((C.draw (DT.one ⟨some 74,none,.mv,[.t 14]⟩ (DT.one ⟨some 75,
 none,.idxI 1,[.t 74,.c (i6 0)]⟩ (DT.one ⟨some 76,none,.loadI none,[.t 75]⟩ ((DT.one ⟨some 70,none,.fldA 2,[.t 3]⟩ ((DT.one ⟨some 71,none,.load none,[.t 70]⟩ (DT.one
 ⟨some 72,none,.idxI 1,[.t 71,.c (i6 0)]⟩ (DT.one ⟨some 73,none,.loadI none,[.t 72]⟩ (DT.one ⟨some 77,none,.idxI 6,[.t 73,.t 76]⟩ (DT.one ⟨some 78,none,.fldI 0,[.t
 77]⟩ (DT.one ⟨some 79,none,.loadI none,[.t 78]⟩ (DT.one ⟨some 17,none,.alloc 5 9 [.str []],[]⟩ (DT.one ⟨none,none,.store 1,[.t 17,.t 79]⟩ DT.nil)))))))).two (DT.one ⟨some
 17,none,.alloc 5 9 [.str []],[]⟩ (DT.one ⟨some 71,none,.load none,[.t 70]⟩ (DT.one ⟨some 72,none,.idxI 1,[.t 71,.c (i6 0)]⟩ (DT.one ⟨some 73,none,.loadI none,[.t 72]⟩
 (DT.one ⟨some 77,none,.idxI 6,[.t 73,.t 76]⟩ (DT.one ⟨some 78,none,.fldI 0,[.t 77]⟩ (DT.one ⟨some 79,none,.loadI none,[.t 78]⟩ (DT.one ⟨none,none,.store 1,[.t 17,.t
 79]⟩ DT.nil)))))))))).two (DT.one ⟨some 17,none,.alloc 5 9 [.str []],[]⟩ (DT.one ⟨some 70,none,.fldA 2,[.t 3]⟩ (DT.one ⟨some 71,none,.load none,[.t 70]⟩ (DT.one ⟨some 72,
 none,.idxI 1,[.t 71,.c (i6 0)]⟩ (DT.one ⟨some 73,none,.loadI none,[.t 72]⟩ (DT.one ⟨some 77,none,.idxI 6,[.t 73,.t 76]⟩ (DT.one ⟨some 78,none,.fldI 0,[.t 77]⟩ (DT.one
 ⟨some 79,none,.loadI none,[.t 78]⟩ (DT.one ⟨none,none,.store 1,[.t 17,.t 79]⟩ DT.nil)))))))))))))).seq ((C.ops [MV 80 8,LD 81 13,O2 82 (.idxA 1) 80 81,LD 83 82,BC 84
 .neq 83 (i6 1),MV 85 84,MG 86 85 false 2,P2 87 85 false (.mkfn (Fn.func 114) 0) 13 17,P2 88 85 false (.call 92 true) 86 87,P1 89 85 false (.un UnOp.not) 88,PT 90 85 89]).seq
 (C.cond (.t 90) ((C.ops [MC 6 (i6 9)]).seq C.ret) C.skip)))))).seq (C.ops [BC 91 .add 57 (i6 1),MV 57 91])))).loop)).seq ((C.ops [MC 6 (i6 0)]).seq
 C.ret)))))))
theorem qva:qI Tryz.prog 38 92 6 [RV.tmp 6] qxh:=fi Tryz.f38 [3,27,9,11,13,17] qrb []
end
section
open Go Go.Proofs AF HY LN
namespace RC
theorem pc1(w:Wd)(c:Int)(s:Str)(h:List AObj):ACalls Tryz.prog 114 [.agg (wdC w),.ip [.int .i64 c],.ip [.str s]] h (.bool (decide (w.col=c)&&decide (w.text=s))) h:=by
 by_cases g:w.col=c
 ·have k1:(w.col=c)=True:=eqt g;rw[dqt g,Bool.true_and];refine acO qoY ?_;simp (disch:=omega) only[qpW,wdC,k1,go_sem]
  repeat' first
   |(apply qa;exact rvk;simp only[go_sem];exact qi)
   |with_reducible apply aiA
  all_goals try exact clz
 ·have k1:(w.col=c)=False:=eqf g;rw[dqf g,Bool.false_and];refine acO qoY ?_;simp (disch:=omega) only[qpW,wdC,k1,go_sem]
  repeat' first
   |(apply qa;exact rvk;simp only[go_sem];exact qi)
   |with_reducible apply aiA
  all_goals try exact clz
theorem qzm(b:List Wd)(c:Int)(s:Str)(k v k2 v2:Nat)(h:List AObj)(hk:getO k h=some (.mem v 3 [.int .i64 c]))(hk2:getO k2 h=some (.mem v2 9 [.str s]))(hn:b.length≤1000000000):
  ACalls Tryz.prog 92 [qZ b,.fn (.func 114) [] [.op k v 0,.op k2 v2 0]] h (.bool (zH (fun i=>decide ((b.getD i default).col=c)&&decide ((b.getD i default).text=s)) b.length)) h:=by
 have hc:=qS hk;have hc2:=qS hk2;unfold qZ;refine qtX qxT ⟨rfl,rfl⟩ ⟨rfl,rfl⟩ (qeJ quk b.length (fun j=>wdC (b.getD j default)) (fun j=> .agg (wdC (b.getD j default))) _ [] [.op k v 0,.op k2 v2 0] _ h (fun i _=>⟨rfl,by simp[jE,wdC],rfl,rfl,rfl⟩) (fun i _=> ?_) om);refine ACalls.borrow ?_ rfl;have e:([AV.agg (wdC (b.getD i default))]++ [AV.op k v 0,AV.op k2 v2 0]).map (rei (fun _=>true) h 8)= [.agg (wdC (b.getD i default)),.ip [.int .i64 c],.ip [.str s]]:=by
  simp only[lca,lna,List.map_cons,List.map_nil,rei_op,if_true,hc,hc2,ipOf_some,List.drop_zero,rei_agg];rfl
 rw[lna,e];exact pc1 _ c s _
theorem qsq{x:Co}{l:List Un}{w bef:Wd}{first:Bool}(h:wdE x l w bef first=0):0≤w.col∧w.col<x.col.length:=by
 unfold wdE at h;split at h
 ·cases h
 split at h
 ·cases h
 ·omega
theorem qkq{x:Co}{l:List Un}(ho:CoOk x)(hv:cvA x l=true){c:Nat}(hc:c<x.col.length)(hf:fnU l c<0):0≤(x.col.getD c []).getD 0 0∧(x.col.getD c []).getD 0 0<((x.tok.getD 0 []).length:Int):=by
 unfold cvA at hv;rw[Bool.not_eq_true',qk]at hv;have h1:=hv c hc;have h2:cvB l c=false:=by
  cases e:cvB l c with
  |false=>rfl
  |true=>
   unfold cvB at e;obtain⟨i,hi,hp⟩:=qv.1 e;rw[Bool.and_eq_true,decide_eq_true_iff,decide_eq_true_iff]at hp;exact absurd hp (qvg hf hi)
 rw[h2,Bool.not_false,Bool.true_and,Bool.not_eq_false']at h1;unfold cmB at h1;rw[Bool.not_eq_true',qk]at h1;have h3:=h1 0 ho.sg.1;rw[Bool.or_eq_false_iff]at h3;have h4:clT x c 0≠none:=of_decide_eq_false h3.1;unfold clT at h4;split at h4
 ·exact absurd rfl h4
 ·rename_i g;rcases ho.ce c hc 0 ho.sg.1 with e|⟨_,e⟩
  ·omega
  ·exact⟨om,e⟩
def cwA(b:List Wd)(i k:Nat):AV:= .int .i64 (cW b (k:Int) i:Int)
theorem qtP(b:List Wd)(c:Int): ∀i,cW b c i≤i:=by
 intro i
 induction i with
 |zero=>exact nlr _
 |succ i ih=>unfold cW;split<;>omega
theorem qmJ{b:List Wd}{i u n:Nat}(hu:u<n)(h:(b.getD i default).col=(u:Int)):List.take u (gC (cwA b i) n)++ [.int .i64 ((cW b (u:Int) i:Int)+1)]++List.drop (u+1) (gC (cwA b i) n)=gC (cwA b (i+1)) n:=by
 rw[qpj _ hu];refine qac fun k hk=> ?_
 unfold cwA;have e:cW b (k:Int) (i+1)=cW b (k:Int) i+if (b.getD i default).col=(k:Int) then 1 else 0:=rfl
 rw[e]
 by_cases g:k=u
 ·subst g;rw[ipo rfl,ipo h];rfl
 ·rw[ine g,ine (by rw[h];omega)];rfl
theorem pvP(x:Co)(l:List Un)(b:List Wd)(h:List AObj)(hz:qen x)(hu:qeo l)(hb:b.length≤1000000000)(ht: ∀i,(b.getD i default).text.length≤1000000000)(hp:ky SG h):
  ACalls Tryz.prog 38 [.agg (coC x),qz l,qZ b] h (.int .i64 (pvE x l b)) h:=by
 have c1:=fun l'=>vaP x l (h++l') hz hu (hp.app l')
 obtain⟨R,hR⟩: ∃R,R=pvE x l b:=⟨_,rfl⟩
 rw[←hR];unfold pvE at hR
 by_cases g:vaE x l=0
 case neg=>
  have k1:(vaE x l=0)=False:=eqf g;rw[ipo g]at hR;rw[hR];obtain⟨e,he⟩: ∃e,e=vaE x l:=⟨_,rfl⟩
  rw[←he]at c1 k1 ⊢;unfold coC at c1;refine acO qva ?_;simp (disch:=omega) only[qxh,coC,go_sem]
  repeat' first
   |(refine cA (c1 _) flk ?_;simp (disch:=omega) only[k1,go_sem])
   |(apply qa;exact rvk;simp only[go_sem];exact qi)
 rw[ine (fun hc=>hc g)]at hR;rw[g]at c1;unfold coC qp at c1;have hv:coE x=0∧qlD x l=true∧cvA x l=true:=by
  unfold vaE at g;split at g
  ·cases g
  rename_i g1;split at g
  ·cases g
  rename_i g2;have g2:rgB x l=true:=by simpa using g2
  unfold rgB at g2;rw[Bool.and_eq_true]at g2;exact⟨Classical.not_not.1 g1,g2⟩
 have ho:=qco hv.1;have hcl:=hz.cl;have k0:(0≤(x.col.length:Int))=True:=eqt om;have k1:((x.col.length:Int)≤9223372036854775807)=True:=eqt om;refine acO qva ?_;simp (disch:=omega) only[qxh,coC,qp,qZ,go_sem]
 repeat' first
  |(refine cA (c1 _) flk ?_;simp (disch:=omega) only[k0,go_sem])
  |with_reducible apply aiA
 all_goals try exact clz
 all_goals try rw[itn]
 rw[qeI];have e0:gC (fun _=>AV.int .i64 0) x.col.length=gC (cwA b 0) x.col.length:=qac fun k _=>rfl
 rw[e0];refine qn (T:=fun i:Nat×Nat×AObj=>qM 92 [(1,qz l),(2,qZ b),(3,.op h.length 1 0),(8,.osl (h.length+1) 1 1 0 x.col.length),(9,.op (h.length+2) i.2.1 0),(28,qZ b),(29,.int .i64 b.length),(30,.int .i64 i.1)])
  (H:=fun i=>h++ [.mem 1 26 (coC x),.mem 1 3 (gC (cwA b i.1) x.col.length),.mem i.2.1 64 (wdC (qfu b i.1)),i.2.2,.emp 0,.emp 0])
  (inv:=fun i=>i.1≤b.length∧qP [i.2.2] 0=true∧ ∀j,j<i.1→ql2 x l b j=0) (m:=fun i=>b.length-i.1) (0,1,.emp 0) ⟨nzl _,rfl,fun j hj=>absurd hj (nnz j)⟩ (Wk.temps ?_) ?_
 ·(simp only[qZ,qz,go_sem,qh,qe,qb,qg];try (repeat' first|(with_reducible apply aiA)|(apply qf;omega)|(apply qd;rfl)|exact qi))
 rintro⟨i,v,O⟩ ⟨i1,i2,i3⟩ K hK;simp only at i1 i2 i3 hK;have i2': ∀m,qP (O::m) 0=true:=fun _=>i2
 by_cases hi:i<b.length
 ·have k2:((i:Int)<b.length)=True:=eqt om;have hE:=jB (f:=ql2 x l b) hi i3;have hS:ql2 x l b i=0→ ∀j,j<i+1→ql2 x l b j=0:=fun hx j hj=>by
   by_cases e:j=i
   ·subst e;exact hx
   ·exact i3 j om
  have c2:=fun h=>qAh x l (b.getD i default) (qfu b i) (decide (i=0)) h hu.n hcl (ht i)
  have hw:ql2 x l b i=wdE x l (b.getD i default) (qfu b i) (decide (i=0)):=rfl;have hrg:= @qsq x l (b.getD i default) (qfu b i) (decide (i=0));have hbn:qfu b (i+1)=b.getD i default:=by unfold qfu;rw[ine om,Nat.add_sub_cancel]
  have hcs:=fun u=> @qmJ b i u x.col.length
  have hle:=fun c=>qtP b c i
  have ei:decide ((i:Int)=0)=decide (i=0):=decide_eq_decide.2 om;obtain⟨w,hwx⟩: ∃w,w=b.getD i default:=⟨_,rfl⟩
  have ew:=hwx.symm;obtain⟨w0,hw0⟩: ∃w0,w0=qfu b i:=⟨_,rfl⟩
  have ew0:=hw0.symm;simp only[ew]at c2 hw hrg hbn hcs;simp only[ew0]at c2 hw hrg;rw[←hw]at hrg;simp only[←hw]at c2;obtain⟨e,he⟩: ∃e,e=ql2 x l b i:=⟨_,rfl⟩
  rw[←he]at hE hS hrg;simp only[←he]at c2;obtain⟨fb,hfb⟩: ∃fb,fb=decide (i=0):=⟨_,rfl⟩
  rw[←hfb]at ei;simp only[←hfb]at c2;unfold coC qp wdC at c2
  by_cases g1:e=0
  case neg=>
   have k3:(e=0)=False:=eqf g1;have hV:R=e:=by rw[hR,ipo (by rw[hE g1];exact g1),hE g1]
   rw[hV];simp (disch:=omega) only[coC,qp,qZ,wdC,k2,ew,ew0,ei,i2',go_sem]
   repeat' first
    |(refine cA (c2 _) flk ?_;simp (disch:=omega) only[k3,go_sem])
    |(apply qa;exact rvk;simp only[go_sem];exact qi)
    |with_reducible apply aiA
   all_goals try exact clz
  have k3:(e=0)=True:=eqt g1;obtain⟨r1,r2⟩:=hrg g1;obtain⟨u,hu'⟩: ∃u:Nat,w.col=(u:Int):=⟨w.col.toNat,om⟩
  simp only[hu']at c2;have un:u<x.col.length:=by omega
  have t2:(0≤(u:Int))=True:=eqt om;have t3:((u:Int)<x.col.length)=True:=eqt om;have t4:(u<x.col.length)=True:=eqt un;have t5:(u+1≤x.col.length)=True:=eqt un;have gl:=jX (cwA b i) x.col.length;have gg:=qax (g:=cwA b i) un;have hst:=hcs u un hu';have hle:=hle (u:Int);have hcw:cwA b i u= .int .i64 (cW b (u:Int) i:Int):=rfl;rw[hcw]at gg;obtain⟨q,hq⟩: ∃q,q=cW b (u:Int) i:=⟨_,rfl⟩
  rw[←hq]at gg hst hle;have b2:((q:Int)+1≤9223372036854775807)=True:=eqt om;have b3:(-9223372036854775808≤(q:Int)+1)=True:=eqt om;simp (disch:=omega) only[coC,qp,qZ,wdC,k2,ew,ew0,ei,i2',hu',Nat.zero_add,Option.isSome_some,go_sem]
  repeat' first
   |(refine cA (c2 _) flk ?_;simp (disch:=omega) only[k3,t2,t3,t4,t5,gl,gg,hst,Nat.mul_one,Nat.zero_add,Option.isSome_some,go_sem])
   |with_reducible apply aiA
  all_goals try exact clz
  try rw[hst]
  refine hK _ _ (i+1,v,.mem (qr (some O)+1) 64 (wdC w)) ⟨hi,rfl,hS g1⟩ (by simp only;omega) ?_;simp only[hbn,wdC,hu'];refine Wk.temps ?_
  (simp only[qZ,qz,go_sem,qh,qe,qb,qg];try (repeat' first|(with_reducible apply aiA)|(apply qf;omega)|(apply qd;rfl)|exact qi))
 have k2:((i:Int)<b.length)=False:=eqf om;obtain rfl:i=b.length:=by omega
 have hn0:=zI (f:=ql2 x l b) (fun j (hj:j<b.length)=>i3 j hj);rw[ine (fun hc=>hc hn0)]at hR;clear hK;obtain⟨w0,hw0⟩: ∃w0,w0=qfu b b.length:=⟨_,rfl⟩
 have ew0:=hw0.symm;rw[ew0];simp (disch:=omega) only[coC,qp,qZ,k2,i2',go_sem]
 repeat' first
  |with_reducible apply aiA
 all_goals try exact clz
 obtain⟨cb,hcb⟩: ∃f:Nat→Int,f=qw8 x l b:=⟨_,rfl⟩
 rw[←hcb]at hR;have z0:((0:Nat):Int)=0:=rfl;have hto:0<x.tok.length:=by have:=ho.tn;have:=ho.sg;omega
 refine qn (T:=fun i:Nat×AObj×AObj=>qM 92 [(1,qz l),(2,qZ b),(3,.op h.length 1 0),(8,.osl (h.length+1) 1 1 0 x.col.length),(55,qp x.col),(56,.int .i64 x.col.length),(57,.int .i64 i.1)])
  (H:=fun i=>h++ [.mem 1 26 (coC x),.mem 1 3 (gC (cwA b b.length) x.col.length),.mem v 64 (wdC w0),O,i.2.1,i.2.2])
  (inv:=fun i=>i.1≤x.col.length∧qP [i.2.1] 0=true∧qP [i.2.2] 0=true∧ ∀j,j<i.1→cb j=0) (m:=fun i=>x.col.length-i.1) (0,.emp 0,.emp 0) ⟨nzl _,rfl,rfl,fun j hj=>absurd hj (nnz j)⟩ (Wk.temps ?_) ?_
 ·(simp only[qZ,qz,qp,go_sem,qh,qe,qb,qg];try (repeat' first|(with_reducible apply aiA)|(apply qf;omega)|(apply qd;rfl)|exact qi))
 rintro⟨i,O1,O2⟩ ⟨i1,j1,j2,j3⟩ K hK;simp only at i1 j1 j2 j3 hK;have j1': ∀m,qP (O1::m) 0=true:=fun _=>j1
 have j2': ∀m,qP (O2::m) 0=true:=fun _=>j2
 by_cases hi:i<x.col.length
 ·have k3:((i:Int)<x.col.length)=True:=eqt om;have t2:(0≤(i:Int))=True:=eqt om;have hE:=jB (f:=cb) hi j3;have hS:cb i=0→ ∀j,j<i+1→cb j=0:=fun hx j hj=>by
   by_cases e:j=i
   ·subst e;exact hx
   ·exact j3 j om
  have hci:cb i=if 0≤fnU l (i:Int) then 0 else if ccB x b i=true then 0 else 9:=by rw[hcb];rfl
  have hcc:ccB x b i=(decide (cW b (i:Int) b.length=1)&&zH (fun j=>decide ((b.getD j default).col=(i:Int))&&decide ((b.getD j default).text=txA x i)) b.length):=rfl;have hto2:= @qkq x l ho hv.2.2 i hi;have eF:fnR l (i:Int)=fnU l (i:Int):=ine om;have eE:fnE (i:Int)=0:=ine om;have c3:=fun h=>qy1 l (i:Int) h hu.n
  simp only[eF,eE]at c3;have htx:txA x i=((x.tok.getD 0 []).getD ((x.col.getD i []).getD 0 0).toNat default).text:=rfl;have hcl0:=ho.cl i hi;obtain⟨c,hcx⟩: ∃c,c=x.col.getD i []:=⟨_,rfl⟩
  have ec:=hcx.symm;rw[ec]at hto2 htx hcl0;obtain⟨t,htt⟩: ∃t,t=c.getD 0 0:=⟨_,rfl⟩
  have et:=htt.symm;rw[et]at hto2 htx;obtain⟨tk,htk⟩: ∃tk,tk=x.tok.getD 0 []:=⟨_,rfl⟩
  have etk:=htk.symm;rw[etk]at hto2 htx;obtain⟨p,hpx⟩: ∃p,p=fnU l (i:Int):=⟨_,rfl⟩
  rw[←hpx]at hci hto2;simp only[←hpx]at c3;unfold qz at c3
  by_cases g1:0≤p
  ·have k4:(0≤p)=True:=eqt g1;rw[ipo g1]at hci;simp (disch:=omega) only[coC,qp,qz,qq,k3,ec,j1',go_sem]
   repeat' first
    |(refine cA (c3 _) flk ?_;simp (disch:=omega) only[k4,go_sem])
    |with_reducible apply aiA
   all_goals try exact clz
   refine hK _ _ (i+1,.mem (qr (some O1)+1) 3 [.int .i64 (i:Int)],O2) ⟨hi,rfl,j2,hS hci⟩ (by simp only;omega) (Wk.temps ?_)
   (simp only[qZ,qz,qp,go_sem,qh,qe,qb,qg];try (repeat' first|(with_reducible apply aiA)|(apply qf;omega)|(apply qd;rfl)|exact qi))
  have k4:(0≤p)=False:=eqf g1;rw[ine g1]at hci;obtain⟨o1,o2⟩:=hto2 om;have k5:(0≤t)=True:=eqt o1;have k6:(t<tk.length)=True:=eqt o2;have k7:((0:Int)<c.length)=True:=eqt (by have:=ho.sg;omega);have k8:((0:Int)<x.tok.length)=True:=eqt om;obtain⟨tt,htt2⟩: ∃tt,tt=tk.getD t.toNat default:=⟨_,rfl⟩
  have ett:=htt2.symm;rw[ett]at htx;rw[htx]at hcc;have gl:=jX (cwA b b.length) x.col.length;have gg:=qax (g:=cwA b b.length) hi;have hcw:cwA b b.length i= .int .i64 (cW b (i:Int) b.length:Int):=rfl;rw[hcw]at gg;have t4:(i<x.col.length)=True:=eqt hi;have t5:(i+1≤x.col.length)=True:=eqt hi;obtain⟨q,hq⟩: ∃q,q=cW b (i:Int) b.length:=⟨_,rfl⟩
  rw[←hq]at gg hcc;have c4:=fun v v2 H hk hk2=>qzm b (i:Int) tt.text (h.length+4) v (h.length+5) v2 H hk hk2 hb
  simp (disch:=omega) only[coC,qp,qz,qq,k3,ec,j1',go_sem]
  repeat' first
   |(refine cA (c3 _) flk ?_;simp (disch:=omega) only[k4,go_sem])
   |with_reducible apply aiA
  all_goals try exact clz
  refine qqG ?T ?H ?h1 ?h2
  case h1=>
   simp (disch:=omega) only[qm,zM,tkC,k5,k6,k7,k8,et,etk,ett,j2',Int.toNat_zero,go_sem]
   repeat' first
    |with_reducible apply aiA
   all_goals first
    |omega
    |rfl
  case h2=>
  by_cases g2:q=1
  case neg=>
   have k9:((q:Int)=1)=False:=eqf om;rw[dqf g2,Bool.false_and]at hcc;rw[hcc,ine (by simp)]at hci;have hV:R=9:=by rw[hR,hE (by rw[hci];decide),hci]
   rw[hV];simp (disch:=omega) only[k9,t2,t4,gl,gg,Nat.mul_one,Nat.zero_add,go_sem]
   repeat' first
    |(refine qj ( .bool false) ?_;simp (disch:=omega) only[go_sem])
    |(apply qa;exact rvk;simp only[go_sem];exact qi)
    |with_reducible apply aiA
   all_goals try exact clz
  have k9:((q:Int)=1)=True:=eqt om;rw[dqt g2,Bool.true_and]at hcc;have c4:=c4 (qr (some O1)+1) (qr (some O2)+1);obtain⟨B,hB⟩: ∃B,B=zH (fun j=>decide ((b.getD j default).col=(i:Int))&&decide ((b.getD j default).text=tt.text)) b.length:=⟨_,rfl⟩
  rw[←hB]at hcc;simp only[←hB]at c4;unfold qZ at c4;simp (disch:=omega) only[k9,t2,t4,gl,gg,Nat.mul_one,Nat.zero_add,qZ,go_sem]
  repeat' first
   |with_reducible apply aiA
  all_goals try exact clz
  refine cG (fun _=>c4 _ ?ka ?kb) (fun _=>by exact flk) ?_
  case ka=>simp only[go_sem]
  case kb=>simp only[go_sem]
  cases B with
  |false=>
   rw[hcc,ine (by simp)]at hci;have hV:R=9:=by rw[hR,hE (by rw[hci];decide),hci]
   rw[hV];simp (disch:=omega) only[go_sem]
   repeat' first
    |(apply qa;exact rvk;simp only[go_sem];exact qi)
  |true=>
   rw[hcc,ipo rfl]at hci;simp (disch:=omega) only[go_sem];refine hK _ _ (i+1,.mem (qr (some O1)+1) 3 [.int .i64 (i:Int)],.mem (qr (some O2)+1) 9 [.str tt.text]) ⟨hi,rfl,rfl,hS hci⟩ (by simp only;omega) (Wk.temps ?_)
   (simp only[qZ,qz,qp,go_sem,qh,qe,qb,qg];try (repeat' first|(with_reducible apply aiA)|(apply qf;omega)|(apply qd;rfl)|exact qi))
 ·have k3:((i:Int)<x.col.length)=False:=eqf om;rw[zI (fun j (hj:j<x.col.length)=>j3 j om)]at hR;rw[hR];simp (disch:=omega) only[coC,qp,k3,go_sem]
  repeat' first
   |(apply qa;exact rvk;simp only[go_sem];exact qi)
end RC
end
section
open Go Go.Proofs AF
end
section
set_option linter.unusedVariables false
namespace Go.Proofs
open Go.Shelf Go.RowKit Go.Lib
end Go.Proofs
end
section
open Go Go.Proofs AF HY
namespace HY
end HY
end
section
open Go Go.Proofs AF HY LN
namespace HY
end HY
namespace RC
end RC
end
section
open Go Go.Proofs AF HY LN
namespace RC
end RC
end
section
open Go Go.Proofs AF
end
section
open Go Go.Proofs AF HY LN
namespace RC
def flG{α:Type}(p:Nat→Bool)(g:Nat→α):Nat→List α
 |0=> []
 |i+1=>flG p g i++if p i=true then [g i] else []
theorem qui{α:Type}{p:Nat→Bool}{g:Nat→α}{i:Nat}(hp:p i=true): ∀ {n:Nat},i<n→ ∃h:(flG p g i).length<(flG p g n).length,(flG p g n)[(flG p g i).length]=g i:=by
 intro n
 induction n with
 |zero=>intro h;exact absurd h (nnz _)
 |succ n ih=>
  intro hi
  by_cases e:i=n
  ·subst e;have e1:flG p g (i+1)=flG p g i++ [g i]:=by
    show flG p g i++(if p i=true then [g i] else [])=_;rw[ipo hp]
   refine⟨by rw[e1];simp,?_⟩;simp only[e1];rw[List.getElem_append_right (nlr _)];simp
  ·obtain⟨h1,h2⟩:=ih om;have e1:flG p g (n+1)=flG p g n++(if p n=true then [g n] else []):=rfl;refine⟨by rw[e1,lap];omega,?_⟩;simp only[e1];rw[List.getElem_append_left h1];exact h2
theorem qjv{α β:Type}(p:Nat→Bool)(g:Nat→α)(k:Nat→β): ∀n,(flG p g n).length=(flG p k n).length:=by
 intro n
 induction n with
 |zero=>rfl
 |succ n ih=>
  show (flG p g n++if p n=true then [g n] else []).length=(flG p k n++if p n=true then [k n] else []).length;rw[lap,lap,ih];split<;>rfl
end RC
end
section
open Go Go.Proofs AF
end
section
open Go Go.Proofs AF HY LN
namespace RC
end RC
end
section
open Go Go.Proofs AF
end
section
open Go Go.Proofs AF HY LN
namespace RC
theorem quj{α β:Type}{p:Nat→Bool}{g:Nat→α}{k:Nat→β}: ∀ {n i:Nat} (hi:i<(flG p g n).length),∃r,r<n∧p r=true∧(flG p g n)[i]=g r∧(flG p k n)[i]? =some (k r):=by
 intro n
 induction n with
 |zero=>intro i hi;exact absurd hi (nnz _)
 |succ n ih=>
  intro i hi;have e1:flG p g (n+1)=flG p g n++(if p n=true then [g n] else []):=rfl;have e2:flG p k (n+1)=flG p k n++(if p n=true then [k n] else []):=rfl;have el:=qjv p g k n
  by_cases hl:i<(flG p g n).length
  ·obtain⟨r,r1,r2,r3,r4⟩:=ih hl;refine⟨r,om,r2,?_,?_⟩
   ·simp only[e1];rw[List.getElem_append_left hl];exact r3
   ·rw[e2,List.getElem?_append_left om];exact r4
  ·cases hp:p n with
   |false=>
    rw[e1,hp,ine (by simp),lan]at hi;exact absurd hi hl
   |true=>
    have hi2:i=(flG p g n).length:=by
     rw[e1,hp,ipo rfl,lap,List.length_singleton]at hi;omega
    refine⟨n,om,hp,?_,?_⟩
    ·simp only[e1,hp,if_true];rw[List.getElem_append_right om];simp[hi2]
    ·rw[e2,hp,ipo rfl,List.getElem?_append_right om];simp[hi2,el]
end RC
end
section
namespace Go.Proofs
open Go.Shelf
end Go.Proofs
end
section
open Go Go.Proofs Go.Sort AF HY LN
namespace RC
end RC
end
section
open Go Go.Proofs AF HY LN
namespace RC
theorem qcO{a b:En}:qbN a b=false↔a.to≤b.frm∧ ¬(a.frm=b.frm∧a.to=b.to):=by
 unfold qbN;rw[Bool.or_eq_false_iff,decide_eq_false_iff_not,Bool.and_eq_false_iff,decide_eq_false_iff_not,decide_eq_false_iff_not];omega
theorem qyf{L:List En}(hs:L.Pairwise fun a b=>qfr b a=false)(hr: ∀e∈L,e.frm≤e.to)(hc:kQ L=false):L.Pairwise fun a b=>qbN a b=false:=by
 induction L with
 |nil=>exact List.Pairwise.nil
 |cons a r ih=>
  have h0:=qlq hs hc;obtain⟨h1,h2⟩:=List.pairwise_cons.1 hs;have h3:=ih h2 (fun e he=>hr e (List.mem_cons_of_mem _ he)) (qcn hc);refine List.pairwise_cons.2 ⟨?_,h3⟩;cases r with
  |nil=>intro z hz;cases hz
  |cons b r=>
   have hab:qbN a b=false:=by
    rw[kQ,Bool.or_eq_false_iff]at hc;exact hc.1
   intro z hz;have g0:=qat.1 ((List.pairwise_cons.1 h0).1 z hz);rcases List.mem_cons.1 hz with rfl|hz'
   ·exact hab
   ·have g1:=qcO.1 ((List.pairwise_cons.1 h3).1 z hz');have g2:=qcO.1 hab;have g3:=hr b (by simp);rw[qcO];omega
theorem qfw: ∀ {L:List En},(L.Pairwise fun a b=>qbN a b=false)→kQ L=false
 | [],_=>rfl
 | [_],_=>rfl
 |a::b::r,h=>by
  obtain⟨h1,h2⟩:=List.pairwise_cons.1 h;rw[kQ,h1 b (by simp),qfw h2];rfl
theorem qgU(names:List Str)(gs:List Gr)(l:List En)(src:Int)(p:En→Bool):ofE names gs (l.filter p) src=(ofE names gs l src).filter p:=by
 have h:=qdD qft qfs p l [] List.Pairwise.nil;unfold ofE qsR;rw[List.filter_nil]at h;rw[←h,List.filter_reverse,List.filter_reverse,List.filter_reverse,List.filter_filter,List.filter_filter];congr 2;funext x;exact Bool.and_comm _ _
theorem qyb{names:List Str}{gs:List Gr}{t:List Str}{l:List En}(h:qsC names gs t l){s:Nat}(hs:s<names.length):(ofE names gs l (s:Int)).Pairwise fun a b=>qbN a b=false:=by
 refine qyf (qgV names gs l s) (fun e he=> ?_) (qai h.cl hs);have h1:e∈qsR l:=(List.mem_filter.1 he).1;have h2:=qi8.1 (h.ck e ((qea l).subset h1));exact h2.rng.2.1
theorem qsC.filter{names:List Str}{gs:List Gr}{t:List Str}{l:List En}(h:qsC names gs t l)(p:En→Bool):qsC names gs t (l.filter p):=
 ⟨h.sg,Nat.le_trans (List.length_filter_le _ _) h.n,fun e he=>h.ck e ((List.mem_filter.1 he).1),qk.2 fun s hs=>by
  rw[qgU]
  exact qfw (List.Pairwise.filter _ (qyb h hs))⟩
deriving instance DecidableEq for Va
deriving instance DecidableEq for En
def tkS(s:Str):Tk:=⟨s,s,[],0,0,[]⟩
def qn7:Str:= [100,101,117,115]
def qyk:Str:= [101,115,116]
end RC
end
section
namespace AF
open Go
end AF
end
section
open Go Go.Proofs AF
end
section
open Go Go.Proofs AF HY LN
namespace RC
theorem il1{f g:Nat→List AV}(h:f 0=g 0):ILe (.sl 1 f) (.sl 1 g):=ILe.sl_eq fun i hi=>by
 obtain rfl:i=0:=by omega
 exact h
theorem il2{f g:Nat→List AV}(h0:f 0=g 0)(h1:f 1=g 1):ILe (.sl 2 f) (.sl 2 g):=ILe.sl_eq fun i hi=>by
 match i,hi with
 |0,_=>exact h0
 |1,_=>exact h1
 |n+2,hi=>exact absurd hi om
theorem im2{f g:Nat→List AV}(h0:qaQ (f 0) (g 0))(h1:qaQ (f 1) (g 1)):ILe (.sl 2 f) (.sl 2 g):=ILe.sl fun i hi=>by
 match i,hi with
 |0,_=>exact h0
 |1,_=>exact h1
 |n+2,hi=>exact absurd hi om
theorem vl1{f g:Nat→List AV}(h:qaQ (f 0) (g 0)):VLe (.sl 1 f) (.sl 1 g):=VLe.sl fun i hi=>by
 obtain rfl:i=0:=by omega
 exact h
theorem vl2{f g:Nat→List AV}(h0:qaQ (f 0) (g 0))(h1:qaQ (f 1) (g 1)):VLe (.sl 2 f) (.sl 2 g):=VLe.sl fun i hi=>by
 match i,hi with
 |0,_=>exact h0
 |1,_=>exact h1
 |n+2,hi=>exact absurd hi om
theorem ie{a b:AV}(h:a=b):ILe a b:=by rw[h];exact ILe.refl _
end RC
end
section
open Go Go.Proofs AF
end
section
open Go Go.Proofs AF HY LN
namespace RC
end RC
end
section
open Go Go.Proofs AF
end
section
open Go Go.Proofs AF HY LN
namespace RC
section
variable {q : En → Bool} {L : List En} {J : Nat}
end
section
variable {k v w : Nat} {h l : List AObj} {ty : TypeId} {cs : List AV}
end
end RC
end
section
open Go Go.Proofs AF
end
section
open Go Go.Proofs AF HY LN
namespace RC
end RC
end
section
open Go Go.Proofs AF
end
section
open Go Go.Proofs AF
end
section
open Go Go.Proofs AF HY LN
namespace RC
def qzw(names:List Str)(gs:List Gr)(p:Un)(v:Va):Bool:=decide (qgz names gs v.sigla=0)&&zH (fun j=>decide ((p.rds.getD j default).words=v.words)&&decide ((p.rds.getD j default).src=qb5 names gs v.sigla)) p.rds.length
def qza(p:Un)(w:List Str):Nat→List Int
 |0=> []
 |j+1=>if (p.rds.getD j default).words=w then (p.rds.getD j default).src else qza p w j
def okB(names:List Str)(gs:List Gr)(w:List Str)(p:Un)(e:En):Bool:=
 if zH (fun j=> !qzw names gs p (e.vars.getD j default)) e.vars.length=true then false else if e.pos=false then decide (e.sup.length=0) else
  decide (qgz names gs e.sup=0)&&decide (qb5 names gs e.sup=qza p (ql9 w e.frm.toNat e.to.toNat) p.rds.length)
end RC
end
section
open Go Go.Proofs AF
end
section
open Go Go.Proofs AF HY LN
namespace RC
end RC
end
section
open Go Go.Proofs AF
end
section
open Go Go.Proofs AF
end
section
open Go Go.Proofs AF HY LN
namespace RC
section
variable {q : Wd → Bool} {L : List Wd} {J : Nat}
end
end RC
end
