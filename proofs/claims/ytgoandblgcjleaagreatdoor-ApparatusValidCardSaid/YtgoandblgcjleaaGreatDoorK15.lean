import Derived.Test.YtgoandblgcjleaaGreatDoorK14
import Derived.Test.YtgoandblgcjleaaGreatDoorK13
import Derived.Test.YtgoandblgcjleaaGreatDoorK3
import Derived.Test.YtgoandblgcjleaaGreatDoorK5
import Derived.Test.YtgoandblgcjleaaGreatDoorK8
import Derived.Test.YtgoandblgcjleaaGreatDoorProg
import Derived.Test.YtgoandblgcjleaaGreatDoorK10
import Derived.Lib.IndexMore
import Derived.Lib.CountLaws
import Derived.Laws.Strings3
import Derived.Test.YtgoandblgcjleaaGreatDoorK12
import Derived.Test.YtgoandblgcjleaaGreatDoorK7
set_option linter.all false
set_option linter.unusedSimpArgs false
set_option linter.unusedVariables false
set_option linter.unusedSectionVars false
set_option maxHeartbeats 64000000
set_option maxRecDepth 100000
section
open Go Go.Proofs AF HY LN
namespace RC
theorem qCB (l:List Un) (f t:Nat) (k v k2 v2:Nat) (h:List AObj) (hk:getO k h=some (.mem v 3 [.int .i64 (f:Int)])) (hk2:getO k2 h=some (.mem v2 3 [.int .i64 (t:Int)])) (hn:l.length≤1000000000):
  ACalls Tryz.prog 54 [qE l,.fn (.func 234) [] [.op k v 0,.op k2 v2 0]] h (.bool (rnB l (f,t))) h:=by
 have hc:=qX hk
 have hc2:=qX hk2
 unfold qE rnB
 refine qhK qAN ⟨rfl,rfl⟩ ⟨rfl,rfl⟩ (qaD qqS l.length (fun j=>unC (l.getD j default)) (fun j=> .agg (unC (l.getD j default))) _ [] [.op k v 0,.op k2 v2 0] _ h (fun i _=>⟨rfl,by simp [zZ,unC],rfl,rfl,rfl⟩) (fun i _=> ?_) (by omega))
 refine ACalls.borrow ?_ rfl
 have e:([AV.agg (unC (l.getD i default))]++ [AV.op k v 0,AV.op k2 v2 0]).map (rei (fun _=>true) h 8)= [.agg (unC (l.getD i default)),.ip [.int .i64 (f:Int)],.ip [.int .i64 (t:Int)]]:=by
  simp only [List.cons_append,List.nil_append,List.map_cons,List.map_nil,rei_op,if_true,hc,hc2,ipOf_some,List.drop_zero,rei_agg]
  rfl
 rw [List.nil_append,e]
 exact qDf _ _ _ _
theorem qnT (l:List Un) (i:Nat):beH l (i+1)=(l.getD i default).to:=by unfold beH;rw [if_neg (by omega),Nat.add_sub_cancel]
theorem qtw (u:Un) (n v:Nat) (ty:TypeId):qae n (.mem v ty (unC u)):=by
 intro c hc
 simp only [unC,List.mem_cons,List.not_mem_nil,or_false]at hc
 rcases hc with rfl|rfl|rfl<;>rfl
theorem qt8 (x:Co): ∀a∈rnX x,a.length=2:=by
 intro a ha
 unfold rnX at ha
 obtain ⟨_,_,rfl⟩:=List.mem_map.1 ha
 rfl
theorem qmo (x:Co):(rnX x).length=(qf0 (cmB x) x.col.length).length:=by simp [rnX]
theorem qt7 {x:Co} {i:Nat} (hi:i<(rnX x).length):(rnX x)[i]= [.int .i64 (((qf0 (cmB x) x.col.length).getD i (0,0)).1:Int),.int .i64 (((qf0 (cmB x) x.col.length).getD i (0,0)).2:Int)]:=by
 have h2:i<(qf0 (cmB x) x.col.length).length:=by rw [←qmo];exact hi
 simp only [rnX,List.getElem_map]
 rw [gdqA,zf h2]
 rfl
theorem qtZ (x:Co) (f d:Nat) (hd:d≤1000000000) (s:Nat) (hs:s≤1000000000):qrD (qbY x f d s):=by
 have hI:=qdZ x f d s
 have hH:=qdY x f d s
 have hl:=qg9 x f d s
 refine ⟨by omega,?_,?_⟩
 ·exact qY _ (fun r:Rd=>r.src.length≤1000000000) (by decide) fun j hj=>by
   have:=hI.src ((qbY x f d s).getD j default) (by rw [gdqA,zf hj];exact List.getElem_mem hj)
   have:=qfu (hi:=(s:Int)) (lo:=0) this.1 this.2
   omega
 ·exact qY _ (fun r:Rd=>r.words.length≤1000000000) (by decide) fun j hj=>by
   have h1:=hH.nn j hj
   obtain ⟨y,ys,e⟩:=List.exists_cons_of_ne_nil h1
   have h2:=hH.wd j hj y (by rw [e];exact List.mem_cons_self)
   rw [h2]
   have:=qdX x y.toNat f d
   omega
theorem qDg (x:Co) (l:List Un) (h:List AObj) (ho:CoOk x) (hn:x.col.length≤1000000000) (hu:qvz l):ACalls Tryz.prog 177 [.agg (coC x),qE l] h (.bool (rgB x l)) h:=by
 have hsg:=ho.sg
 have hl:=hu.n
 obtain ⟨R,hR⟩: ∃R,R=rgB x l:=⟨_,rfl⟩
 rw [←hR]
 unfold rgB at hR
 refine acO qxy ?_
 simp (disch:=omega) only [qvZ,coC,qE,go_sem]
 repeat' first
  |((first|apply qd|apply qb);exact rvk;simp only [go_sem];first|exact ql|apply qe|apply qa|apply qf|skip)
  |with_reducible first|intro _|apply aiA
 all_goals try exact clz
 refine qu (T:=fun i:Nat×AObj=>qT 63 [(2,.op h.length 1 0),(3,.op (h.length+1) 1 0),(4,.op (h.length+2) 1 0),(5,.int .i64 (beH l i.1)),(10,qE l),(11,.int .i64 l.length),(12,.int .i64 i.1)])
  (H:=fun i=>h++ [.mem 1 26 (coC x),.mem 1 27 [qE l],.mem 1 4 [.bool false],i.2,.emp 0,.emp 0])
  (inv:=fun i=>i.1≤l.length∧qP [i.2] 0=true∧(∀n,qae n i.2)∧ ∀j,j<i.1→unB x (beH l j) (l.getD j default)=true) (m:=fun i=>l.length-i.1) (0,.emp 0) ⟨Nat.zero_le _,rfl,fun _=>trivial,fun j hj=>absurd hj (Nat.not_lt_zero j)⟩ (Wk.temps ?_) ?_
 ·(simp only [qE,beH,go_sem,qk,qh,qg,qj];try (repeat' first|(with_reducible apply aiA)|(apply qe;omega)|(apply qa;rfl)|exact ql))
 rintro ⟨i,O⟩ ⟨i1,i2,il,i3⟩ K hK
 simp only at i1 i2 il i3 hK
 have i2': ∀m,qP (O::m) 0=true:=fun _=>i2
 by_cases hi:i<l.length
 ·have k1:((i:Int)<l.length)=True:=eq_true (by omega)
  have hno:unB x (beH l i) (l.getD i default)=false→R=false:=fun hx=>by
   rw [hR]
   unfold qm6
   rw [qG.2 ⟨i,hi,by rw [hx];rfl⟩]
   rfl
  have hS:unB x (beH l i) (l.getD i default)=true→ ∀j,j<i+1→unB x (beH l j) (l.getD j default)=true:=fun hx j hj=>by
   by_cases e:j=i
   ·subst e;exact hx
   ·exact i3 j (by omega)
  have hbs:=qnT l i
  have zrd:qrD (l.getD i default).rds:=⟨hu.rd i,hu.sr i,hu.wd i⟩
  obtain ⟨u,hux⟩: ∃u,u=l.getD i default:=⟨_,rfl⟩
  have eu:=hux.symm
  rw [eu]at hno hS hbs zrd
  obtain ⟨b,hb⟩: ∃b,b=beH l i:=⟨_,rfl⟩
  have eb:=hb.symm
  rw [eb]at hno hS
  have hB:unB x b u= !(decide (u.frm≤b)||(decide (u.frm<0)||(decide (u.to≤u.frm)||(decide ((x.col.length:Int)<u.to)|| !decide (u.rds=qg7 x u.frm.toNat u.to.toNat))))):=rfl
  by_cases g1:u.frm≤b
  ·have q1:(u.frm≤b)=True:=eq_true g1
   rw [hno (by rw [hB,decide_eq_true g1];rfl)]
   simp (disch:=omega) only [qE,unC,coC,qp,zC,k1,eu,eb,i2',q1,go_sem]
   repeat' first
    |(refine qn ( zC []) ?_;simp (disch:=omega) only [qE,unC,coC,qp,zC,k1,eu,eb,i2',q1,go_sem])
    |(refine qn ( .bool false) ?_;simp (disch:=omega) only [qE,unC,coC,qp,zC,k1,eu,eb,i2',q1,go_sem])
    |((first|apply qd|apply qb);exact rvk;simp only [go_sem];first|exact ql|apply qe|apply qa|apply qf|skip)
    |with_reducible first|intro _|apply aiA
   all_goals try exact clz
  have q1:(u.frm≤b)=False:=eq_false g1
  by_cases g2:u.frm<0
  ·have q2:(u.frm<0)=True:=eq_true g2
   rw [hno (by rw [hB,decide_eq_true g2];simp)]
   simp (disch:=omega) only [qE,unC,coC,qp,zC,k1,eu,eb,i2',q1,q2,go_sem]
   repeat' first
    |(refine qn ( zC []) ?_;simp (disch:=omega) only [qE,unC,coC,qp,zC,k1,eu,eb,i2',q1,q2,go_sem])
    |(refine qn ( .bool false) ?_;simp (disch:=omega) only [qE,unC,coC,qp,zC,k1,eu,eb,i2',q1,q2,go_sem])
    |((first|apply qd|apply qb);exact rvk;simp only [go_sem];first|exact ql|apply qe|apply qa|apply qf|skip)
    |with_reducible first|intro _|apply aiA
   all_goals try exact clz
  have q2:(u.frm<0)=False:=eq_false g2
  by_cases g3:u.to≤u.frm
  ·have q3:(u.to≤u.frm)=True:=eq_true g3
   rw [hno (by rw [hB,decide_eq_true g3];simp)]
   simp (disch:=omega) only [qE,unC,coC,qp,zC,k1,eu,eb,i2',q1,q2,q3,go_sem]
   repeat' first
    |(refine qn ( zC []) ?_;simp (disch:=omega) only [qE,unC,coC,qp,zC,k1,eu,eb,i2',q1,q2,q3,go_sem])
    |(refine qn ( .bool false) ?_;simp (disch:=omega) only [qE,unC,coC,qp,zC,k1,eu,eb,i2',q1,q2,q3,go_sem])
    |((first|apply qd|apply qb);exact rvk;simp only [go_sem];first|exact ql|apply qe|apply qa|apply qf|skip)
    |with_reducible first|intro _|apply aiA
   all_goals try exact clz
  have q3:(u.to≤u.frm)=False:=eq_false g3
  by_cases g4:(x.col.length:Int)<u.to
  ·have q4:((x.col.length:Int)<u.to)=True:=eq_true g4
   rw [hno (by rw [hB,decide_eq_true g4];simp)]
   simp (disch:=omega) only [qE,unC,coC,qp,zC,k1,eu,eb,i2',q1,q2,q3,q4,go_sem]
   repeat' first
    |(refine qn ( zC []) ?_;simp (disch:=omega) only [qE,unC,coC,qp,zC,k1,eu,eb,i2',q1,q2,q3,q4,go_sem])
    |(refine qn ( .bool false) ?_;simp (disch:=omega) only [qE,unC,coC,qp,zC,k1,eu,eb,i2',q1,q2,q3,q4,go_sem])
    |((first|apply qd|apply qb);exact rvk;simp only [go_sem];first|exact ql|apply qe|apply qa|apply qf|skip)
    |with_reducible first|intro _|apply aiA
   all_goals try exact clz
  have q4:((x.col.length:Int)<u.to)=False:=eq_false g4
  obtain ⟨f,hf⟩: ∃f:Nat,u.frm=(f:Int):=⟨u.frm.toNat,by omega⟩
  obtain ⟨t,ht⟩: ∃t:Nat,u.to=(t:Int):=⟨u.to.toNat,by omega⟩
  have c48:=fun h=>qDe x f t h ho (by omega) hn
  have zF:qrD (qg7 x f t):=qtZ x f (t-f) (by omega) x.sig.length (by omega)
  have c49:=fun h=>qDj u.rds (qg7 x f t) h zrd zF
  have eft:qg7 x u.frm.toNat u.to.toNat=qg7 x f t:=by rw [hf,ht,Int.toNat_natCast,Int.toNat_natCast]
  rw [decide_eq_false g1,decide_eq_false g2,decide_eq_false g3,decide_eq_false g4,eft]at hB
  obtain ⟨F,hF⟩: ∃F,F=qg7 x f t:=⟨_,rfl⟩
  rw [←hF]at hB
  simp only [←hF]at c48 c49
  obtain ⟨c,hc⟩: ∃c,c=decide (u.rds=F):=⟨_,rfl⟩
  rw [←hc]at hB
  simp only [←hc]at c49
  rw [hf]at q1 q2 q3
  rw [ht]at q3 q4
  unfold coC qp at c48
  unfold zC at c48 c49
  cases c with
  |false=>
   rw [hno hB]
   simp (disch:=omega) only [qE,unC,coC,qp,zC,k1,eu,eb,i2',q1,q2,q3,q4,hf,ht,go_sem]
   repeat' first
    |((first|refine cA (c48 _) ?_ ?_|refine cG (fun e=>c48 _) ?_ ?_|refine cA (c49 _) ?_ ?_|refine cG (fun e=>c49 _) ?_ ?_|refine cU (fun _=>c48 _) ?_ ?_|refine cU (fun _=>c49 _) ?_ ?_);exact flk;simp (disch:=omega) only [qE,unC,coC,qp,zC,k1,eu,eb,i2',q1,q2,q3,q4,hf,ht,go_sem])
    |((first|apply qd|apply qb);exact rvk;simp only [go_sem];first|exact ql|apply qe|apply qa|apply qf|skip)
    |with_reducible first|intro _|apply aiA
   all_goals try exact clz
  |true=>
   simp (disch:=omega) only [qE,unC,coC,qp,zC,k1,eu,eb,i2',q1,q2,q3,q4,hf,ht,go_sem]
   repeat' first
    |((first|refine cA (c48 _) ?_ ?_|refine cG (fun e=>c48 _) ?_ ?_|refine cA (c49 _) ?_ ?_|refine cG (fun e=>c49 _) ?_ ?_|refine cU (fun _=>c48 _) ?_ ?_|refine cU (fun _=>c49 _) ?_ ?_);exact flk;simp (disch:=omega) only [qE,unC,coC,qp,zC,k1,eu,eb,i2',q1,q2,q3,q4,hf,ht,go_sem])
    |((first|apply qd|apply qb);exact rvk;simp only [go_sem];first|exact ql|apply qe|apply qa|apply qf|skip)
    |with_reducible first|intro _|apply aiA
   all_goals try exact clz
   refine hK _ _ (i+1,.mem (qx (some O)+1) 83 (unC u)) ⟨hi,rfl,fun n=>qtw u n _ _,hS hB⟩ (by simp only;omega) ?_
   simp only [hbs,ht,unC,hf]
   refine Wk.temps ?_
   (simp only [qE,coC,qp,go_sem,qk,qh,qg,qj];try (repeat' first|(with_reducible apply aiA)|(apply qe;omega)|(apply qa;rfl)|exact ql))
 have k1:((i:Int)<l.length)=False:=eq_false (by omega)
 obtain rfl:i=l.length:=by omega
 have hun:qm6 x l=true:=by
  unfold qm6
  rw [qo.2 fun j hj=>by rw [i3 j hj];rfl]
  rfl
 rw [hun,Bool.true_and]at hR
 have hcv:=qsO hun
 clear hK
 have c56:=fun h=>qDh x h
 unfold coC qp at c56
 simp (disch:=omega) only [coC,qp,k1,go_sem]
 repeat' first
  |((first|refine cA (c56 _) ?_ ?_|refine cG (fun e=>c56 _) ?_ ?_|refine cU (fun _=>c56 _) ?_ ?_);exact flk;simp (disch:=omega) only [coC,qp,k1,go_sem])
  |((first|apply qd|apply qb);exact rvk;simp only [go_sem];first|exact ql|apply qe|apply qa|apply qf|skip)
  |with_reducible first|intro _|apply aiA
 all_goals try exact clz
 obtain ⟨rs,hrs⟩: ∃rs,rs=qf0 (cmB x) x.col.length:=⟨_,rfl⟩
 have hrl:=qmo x
 have hrg:=fun i hi=>qt7 (x:=x) (i:=i) hi
 rw [←hrs]at hrl hcv
 simp only [←hrs]at hrg
 refine qaP (xs:=rnX x) (itR x ho hn) (qt8 x)
  (S:=fun i hh=>(∃O8 O9,qP [O8] 0=true∧qP [O9] 0=true∧(∀n,qae n O8)∧(∀n,qae n O9)∧hh=h++ [.mem 1 26 (coC x),.mem 1 27 [qE l],.mem 1 4 [.bool false],O,O8,O9])∧ ∀j,j<i→rnB l (rs.getD j (0,0))=true)
  (E:=fun s hh=>s= .ret∧R=false∧ ∃O8 O9,(∀n,qae n O8)∧(∀n,qae n O9)∧hh=h++ [.mem 1 26 (coC x),.mem 1 27 [qE l],.mem 1 4 [.bool false],O,O8,O9]) ?_ ?_ ?_ ?_ ?_ ?_ ?_
 ·rintro i hh ⟨⟨O8,O9,_,_,l8,l9,rfl⟩,_⟩
  refine LowI.app rfl (fun o ho=> ?_)
  simp only [List.mem_cons,List.not_mem_nil,or_false]at ho
  rcases ho with rfl|rfl|rfl|rfl|rfl|rfl
  ·left;simp [coC,qp]
  ·left;simp
  ·left;simp
  ·left;simp
  ·right;exact ⟨l8 _,l8 _⟩
  ·right;exact ⟨l9 _,l9 _⟩
 ·rintro s hh ⟨_,_,O8,O9,l8,l9,rfl⟩
  refine LowI.app rfl (fun o ho=> ?_)
  simp only [List.mem_cons,List.not_mem_nil,or_false]at ho
  rcases ho with rfl|rfl|rfl|rfl|rfl|rfl
  ·left;simp [coC,qp]
  ·left;simp
  ·left;simp
  ·left;simp
  ·right;exact ⟨l8 _,l8 _⟩
  ·right;exact ⟨l9 _,l9 _⟩
 ·exact ⟨⟨.emp 0,.emp 0,rfl,rfl,fun _=>trivial,fun _=>trivial,rfl⟩,fun j hj=>absurd hj (Nat.not_lt_zero j)⟩
 ·have lu: ∀n,jd n (qE l)=true:=fun _=>rfl
  have lt: ∀n,jd n (qr x.tok)=true:=fun _=>rfl
  simp [jd,jd.lowVs,lu,lt,qdO]
  try omega
 ·rintro i hh tl LI TS hi ⟨⟨O8,O9,s8,s9,l8,l9,rfl⟩,hj⟩ hlen K K2 hK hN hR' hX
  rw [hrg i hi]
  rw [hrl]at hi
  obtain ⟨⟨f,t⟩,hr⟩: ∃r,r=rs.getD i (0,0):=⟨_,rfl⟩
  have er:=hr.symm
  rw [er]
  have s8': ∀m,qP (O8::m) 0=true:=fun _=>s8
  have s9': ∀m,qP (O9::m) 0=true:=fun _=>s9
  simp only [qcb]
  simp (disch:=omega) only [List.append_assoc,coC,s8',s9',go_sem]
  refine hK _ _ (h++ [.mem 1 26 (coC x),.mem 1 27 [qE l],.mem 1 4 [.bool false],O,.mem (qx (some O8)+1) 3 [.int .i64 (f:Int)],.mem (qx (some O9)+1) 3 [.int .i64 (t:Int)]]) (by simp [coC]) (by simp) ?_
  simp (disch:=omega) only [List.append_assoc,go_sem]
  repeat' first
   |((first|apply qd|apply qb);exact rvk;simp only [go_sem];first|exact ql|apply qe|apply qa|apply qf|skip)
   |with_reducible first|intro _|apply aiA
  all_goals try exact clz
  refine cA (qCB l f t (h.length+4) _ (h.length+5) _ _ ?ka ?kb hl) (by exact flk) ?_
  case ka=>simp only [go_sem]
  case kb=>simp only [go_sem]
  have l8': ∀n,qae n (.mem (qx (some O8)+1) 3 [.int .i64 (f:Int)]):=fun n c hc=>by simp at hc;subst hc;rfl
  have l9': ∀n,qae n (.mem (qx (some O9)+1) 3 [.int .i64 (t:Int)]):=fun n c hc=>by simp at hc;subst hc;rfl
  cases hb:rnB l (f,t)with
  |true=>
   simp (disch:=omega) only [List.append_assoc,go_sem]
   repeat' first
    |((first|apply qd|apply qb);exact rvk;simp only [go_sem];first|exact ql|apply qe|apply qa|apply qf|skip)
    |with_reducible first|intro _|apply aiA
   all_goals try exact clz
   refine hN _ _ (h++ [.mem 1 26 (coC x),.mem 1 27 [qE l],.mem 1 4 [.bool false],O,.mem (qx (some O8)+1) 3 [.int .i64 (f:Int)],.mem (qx (some O9)+1) 3 [.int .i64 (t:Int)]]) (by simp [coC]) (by simp) ⟨⟨_,_,rfl,rfl,l8',l9',rfl⟩,fun j hj'=> ?_⟩
   by_cases e:j=i
   ·subst e;rw [er];exact hb
   ·exact hj j (by omega)
  |false=>
   have hRf:R=false:=by
    rw [hR]
    cases hc:cvA x l with
    |false=>rfl
    |true=>
     have h2:=List.all_eq_true.1 (hcv.2 hc) (f,t) (by rw [hr,gdqA,zf hi];exact List.getElem_mem hi)
     rw [hb]at h2
     cases h2
   simp (disch:=omega) only [List.append_assoc,go_sem]
   repeat' first
    |((first|apply qd|apply qb);exact rvk;simp only [go_sem];first|exact ql|apply qe|apply qa|apply qf|skip)
    |with_reducible first|intro _|apply aiA
   all_goals try exact clz
   refine hR' _ _ (h++ [.mem 1 26 (coC x),.mem 1 27 [qE l],.mem 1 4 [.bool false],O,.mem (qx (some O8)+1) 3 [.int .i64 (f:Int)],.mem (qx (some O9)+1) 3 [.int .i64 (t:Int)]]) (by simp [coC]) (by simp) ⟨rfl,hRf,_,_,l8',l9',rfl⟩
 ·rintro hh ⟨⟨O8,O9,s8,s9,l8,l9,rfl⟩,hj⟩
  have hRt:R=true:=by
   rw [hR]
   refine hcv.1 (List.all_eq_true.2 fun r hr=> ?_)
   obtain ⟨j,hj1,rfl⟩:=List.getElem_of_mem hr
   have:=hj j (by rw [hrl];exact hj1)
   rw [gdqA,zf hj1]at this
   exact this
  rw [hRt]
  simp (disch:=omega) only [go_sem]
  repeat' first
   |((first|apply qd|apply qb);exact rvk;simp only [go_sem];first|exact ql|apply qe|apply qa|apply qf|skip)
   |with_reducible first|intro _|apply aiA
  all_goals try exact clz
 ·rintro e hh ⟨rfl,hRf,O8,O9,l8,l9,rfl⟩
  rw [hRf]
  simp (disch:=omega) only [go_sem]
  repeat' first
   |((first|apply qd|apply qb);exact rvk;simp only [go_sem];first|exact ql|apply qe|apply qa|apply qf|skip)
   |with_reducible first|intro _|apply aiA
  all_goals try exact clz
theorem vaP (x:Co) (l:List Un) (h:List AObj) (hz:qvh x) (hu:qvz l) (hp:kY SG h):ACalls Tryz.prog 111 [.agg (coC x),qE l] h (.int .i64 (vaE x l)) h:=by
 have c1:=fun l'=>coP x (h++l') hz (hp.app l')
 unfold vaE
 by_cases g:coE x=0
 case neg=>
  have k1:(coE x=0)=False:=eq_false g
  rw [if_pos g]
  obtain ⟨e,he⟩: ∃e,e=coE x:=⟨_,rfl⟩
  rw [←he]at c1 k1
  unfold coC at c1
  refine acO qqM ?_
  simp (disch:=omega) only [qrV,coC,go_sem]
  repeat' first
   |((first|refine cA (c1 _) ?_ ?_|refine cG (fun e=>c1 _) ?_ ?_|refine cU (fun _=>c1 _) ?_ ?_);exact flk;simp (disch:=omega) only [coC,k1,go_sem])
   |((first|apply qd|apply qb);exact rvk;simp only [go_sem];first|exact ql|apply qe|apply qa|apply qf|skip)
   |with_reducible first|intro _|apply aiA
  all_goals try exact clz
 rw [if_neg (fun hc=>hc g)]
 have c2:=fun h=>qDg x l h (qgE g) hz.cl hu
 rw [g]at c1
 unfold coC at c1 c2
 cases g2:rgB x l<;>rw [g2]at c2
 all_goals
  refine acO qqM ?_
  simp (disch:=omega) only [qrV,coC,go_sem]
  repeat' first
   |((first|refine cA (c1 _) ?_ ?_|refine cG (fun e=>c1 _) ?_ ?_|refine cA (c2 _) ?_ ?_|refine cG (fun e=>c2 _) ?_ ?_|refine cU (fun _=>c1 _) ?_ ?_|refine cU (fun _=>c2 _) ?_ ?_);exact flk;simp (disch:=omega) only [coC,go_sem])
   |((first|apply qd|apply qb);exact rvk;simp only [go_sem];first|exact ql|apply qe|apply qa|apply qf|skip)
   |with_reducible first|intro _|apply aiA
  all_goals try exact clz
end RC
end
section
open Go Go.Proofs AF
def qto:List Nat:= [1000072,1000073,1000075,1000076,1000077,1000078,1000079]
def qAl:C:=
 ((C.ops [O1 3 (.box 0 26) 0,MC 6 (i6 0)]).seq (((C.ops [O1 18 (.load (some 4)) 3,MV 19 1,O2 20 (.call 111 true) 18 19,MV 7 20]).seq ((C.ops [MV 21 7,BC 22 .neq 21 (i6 0)]).seq
 (C.cond (.t 22) ((C.ops [MV 23 7,MV 6 23]).seq C.ret) C.skip))).seq ((C.ops [O1 24 (.fldA 3) 3,LD 25 24,O1 26 .len 25,⟨some 27,none,.mkslc 1 1 3 [i6 0] 8,[.t 26,.t 26]⟩,MV
 8 27]).seq ((C.ops [⟨some 9,none,.alloc 2 64 [.str [],i6 0,i6 0,i6 0,.bool false,.bool false,.str []],[]⟩]).seq (((C.ops [MV 28 2,O1 29 .len 28,MC 30 (i6 0)]).seq
 (C.block 0 ((C.ops [BI 31 .lss 30 29]).seq ((C.cond (.t 31) C.skip (C.exit 0)).seq ((C.block 1 ((C.ops [MV 32 30,O2 33 (.idxA 7) 28 30,O1 34 (.load (some 7)) 33,⟨some 11,none,
 .alloc 3 64 [.str [],i6 0,i6 0,i6 0,.bool false,.bool false,.str []],[]⟩,MV 10 32,ST 7 11 34]).seq (((C.ops [O1 35 (.load (some 4)) 3,MV 36 1,O1 37 (.load (some 7)) 11,
 O1 38 (.load (some 7)) 9,MV 39 10,BC 40 .eql 39 (i6 0),ON 41 (.call 112 true) [.t 35,.t 36,.t 37,.t 38,.t 40],MV 12 41]).seq ((C.ops [MV 42 12,BC 43 .neq 42 (i6 0)]).seq
 (C.cond (.t 43) ((C.ops [MV 44 12,MV 6 44]).seq C.ret) C.skip))).seq ((C.ops [O1 45 (.load (some 7)) 11,ST 7 9 45]).seq (C.ops [MV 46 8,O1 47 (.fldA 1) 11,LD 48 47,O2 49
 (.idxA 1) 46 48,LD 50 49,BC 51 .add 50 (i6 1),O2 52 (.idxA 1) 46 48,ST 1 52 51]))))).seq (C.ops [BC 53 .add 30 (i6 1),MV 30 53])))).loop)).seq (((C.ops [O1 54 (.fldA 3) 3,LD
 55 54,O1 56 .len 55,MC 57 (i6 0)]).seq (C.block 2 ((C.ops [BI 58 .lss 57 56]).seq ((C.cond (.t 58) C.skip (C.exit 2)).seq ((C.block 3 ((C.ops [MV 59 57,O2 60 (.idxA 1) 55 57,LD
 61 60,⟨some 13,none,.alloc 4 3 [i6 0],[]⟩,ST 1 13 59,MV 14 61]).seq (((C.ops [MV 63 1,LD 64 13,O2 65 (.call 113 true) 63 64,MV 62 65,O1 66 (.ext 0) 62,O1 67 (.ext 1) 62,
 MV 15 66,MV 16 67]).seq ((C.ops [MV 68 15,BC 69 .geq 68 (i6 0)]).seq (C.cond (.t 69) (C.exit 3) C.skip))).seq ((C.draw (DT.one ⟨some 74,none,.mv,[.t 14]⟩ (DT.one ⟨some 75,
 none,.idxI 1,[.t 74,.c (i6 0)]⟩ (DT.one ⟨some 76,none,.loadI none,[.t 75]⟩ ((DT.one ⟨some 70,none,.fldA 2,[.t 3]⟩ ((DT.one ⟨some 71,none,.load none,[.t 70]⟩ (DT.one
 ⟨some 72,none,.idxI 1,[.t 71,.c (i6 0)]⟩ (DT.one ⟨some 73,none,.loadI none,[.t 72]⟩ (DT.one ⟨some 77,none,.idxI 6,[.t 73,.t 76]⟩ (DT.one ⟨some 78,none,.fldI 0,[.t
 77]⟩ (DT.one ⟨some 79,none,.loadI none,[.t 78]⟩ (DT.one ⟨some 17,none,.alloc 5 9 [.str []],[]⟩ (DT.one ⟨none,none,.store 1,[.t 17,.t 79]⟩ DT.nil)))))))).two (DT.one ⟨some
 17,none,.alloc 5 9 [.str []],[]⟩ (DT.one ⟨some 71,none,.load none,[.t 70]⟩ (DT.one ⟨some 72,none,.idxI 1,[.t 71,.c (i6 0)]⟩ (DT.one ⟨some 73,none,.loadI none,[.t 72]⟩
 (DT.one ⟨some 77,none,.idxI 6,[.t 73,.t 76]⟩ (DT.one ⟨some 78,none,.fldI 0,[.t 77]⟩ (DT.one ⟨some 79,none,.loadI none,[.t 78]⟩ (DT.one ⟨none,none,.store 1,[.t 17,.t
 79]⟩ DT.nil)))))))))).two (DT.one ⟨some 17,none,.alloc 5 9 [.str []],[]⟩ (DT.one ⟨some 70,none,.fldA 2,[.t 3]⟩ (DT.one ⟨some 71,none,.load none,[.t 70]⟩ (DT.one ⟨some 72,
 none,.idxI 1,[.t 71,.c (i6 0)]⟩ (DT.one ⟨some 73,none,.loadI none,[.t 72]⟩ (DT.one ⟨some 77,none,.idxI 6,[.t 73,.t 76]⟩ (DT.one ⟨some 78,none,.fldI 0,[.t 77]⟩ (DT.one
 ⟨some 79,none,.loadI none,[.t 78]⟩ (DT.one ⟨none,none,.store 1,[.t 17,.t 79]⟩ DT.nil)))))))))))))).seq ((C.ops [MV 80 8,LD 81 13,O2 82 (.idxA 1) 80 81,LD 83 82,BC 84
 .neq 83 (i6 1),MV 85 84,MG 86 85 false 2,P2 87 85 false (.mkfn (Fn.func 114) 0) 13 17,P2 88 85 false (.call 92 true) 86 87,P1 89 85 false (.un UnOp.not) 88,PT 90 85 89]).seq
 (C.cond (.t 90) ((C.ops [MC 6 (i6 9)]).seq C.ret) C.skip)))))).seq (C.ops [BC 91 .add 57 (i6 1),MV 57 91])))).loop)).seq ((C.ops [MC 6 (i6 0)]).seq
 C.ret)))))))
theorem qyl:qK Tryz.prog 38 92 6 [RV.tmp 6] qAl:=fi Tryz.f38 [3,27,9,11,13,17] qto []
end
section
open Go Go.Proofs AF HY LN
namespace RC
theorem pc1 (w:Wd) (c:Int) (s:Str) (h:List AObj):ACalls Tryz.prog 114 [.agg (wdC w),.ip [.int .i64 c],.ip [.str s]] h (.bool (decide (w.col=c)&&decide (w.text=s))) h:=by
 by_cases g:w.col=c
 ·have k1:(w.col=c)=True:=eq_true g
  rw [decide_eq_true g,Bool.true_and]
  refine acO qqO ?_
  simp (disch:=omega) only [qrX,wdC,k1,go_sem]
  repeat' first
   |((first|apply qd|apply qb);exact rvk;simp only [go_sem];first|exact ql|apply qe|apply qa|apply qf|skip)
   |with_reducible first|intro _|apply aiA
  all_goals try exact clz
 ·have k1:(w.col=c)=False:=eq_false g
  rw [decide_eq_false g,Bool.false_and]
  refine acO qqO ?_
  simp (disch:=omega) only [qrX,wdC,k1,go_sem]
  repeat' first
   |((first|apply qd|apply qb);exact rvk;simp only [go_sem];first|exact ql|apply qe|apply qa|apply qf|skip)
   |with_reducible first|intro _|apply aiA
  all_goals try exact clz
theorem qCA (b:List Wd) (c:Int) (s:Str) (k v k2 v2:Nat) (h:List AObj) (hk:getO k h=some (.mem v 3 [.int .i64 c])) (hk2:getO k2 h=some (.mem v2 9 [.str s])) (hn:b.length≤1000000000):
  ACalls Tryz.prog 92 [qM b,.fn (.func 114) [] [.op k v 0,.op k2 v2 0]] h (.bool (zd (fun i=>decide ((b.getD i default).col=c)&&decide ((b.getD i default).text=s)) b.length)) h:=by
 have hc:=qX hk
 have hc2:=qX hk2
 unfold qM
 refine qhK qoO ⟨rfl,rfl⟩ ⟨rfl,rfl⟩ (qaD qgK b.length (fun j=>wdC (b.getD j default)) (fun j=> .agg (wdC (b.getD j default))) _ [] [.op k v 0,.op k2 v2 0] _ h (fun i _=>⟨rfl,by simp [zZ,wdC],rfl,rfl,rfl⟩) (fun i _=> ?_) (by omega))
 refine ACalls.borrow ?_ rfl
 have e:([AV.agg (wdC (b.getD i default))]++ [AV.op k v 0,AV.op k2 v2 0]).map (rei (fun _=>true) h 8)= [.agg (wdC (b.getD i default)),.ip [.int .i64 c],.ip [.str s]]:=by
  simp only [List.cons_append,List.nil_append,List.map_cons,List.map_nil,rei_op,if_true,hc,hc2,ipOf_some,List.drop_zero,rei_agg]
  rfl
 rw [List.nil_append,e]
 exact pc1 _ c s _
theorem quH {x:Co} {l:List Un} {w bef:Wd} {first:Bool} (h:wdE x l w bef first=0):0≤w.col∧w.col<x.col.length:=by
 unfold wdE at h
 split at h
 ·cases h
 split at h
 ·cases h
 ·omega
theorem qtM {x:Co} {l:List Un} (ho:CoOk x) (hv:cvA x l=true) {c:Nat} (hc:c<x.col.length) (hf:fnU l c<0):0≤(x.col.getD c []).getD 0 0∧(x.col.getD c []).getD 0 0<((x.tok.getD 0 []).length:Int):=by
 unfold cvA at hv
 rw [Bool.not_eq_true',qo]at hv
 have h1:=hv c hc
 have h2:cvB l c=false:=by
  cases e:cvB l c with
  |false=>rfl
  |true=>
   unfold cvB at e
   obtain ⟨i,hi,hp⟩:=qG.1 e
   rw [Bool.and_eq_true,decide_eq_true_iff,decide_eq_true_iff]at hp
   exact absurd hp (qrb hf hi)
 rw [h2,Bool.not_false,Bool.true_and,Bool.not_eq_false']at h1
 unfold cmB at h1
 rw [Bool.not_eq_true',qo]at h1
 have h3:=h1 0 ho.sg.1
 rw [Bool.or_eq_false_iff]at h3
 have h4:clT x c 0≠none:=of_decide_eq_false h3.1
 unfold clT at h4
 split at h4
 ·exact absurd rfl h4
 ·rename_i g
  rcases ho.ce c hc 0 ho.sg.1 with e|⟨_,e⟩
  ·omega
  ·exact ⟨by omega,e⟩
def cwA (b:List Wd) (i k:Nat):AV:= .int .i64 (cW b (k:Int) i:Int)
theorem qAp (b:List Wd) (c:Int): ∀i,cW b c i≤i:=by
 intro i
 induction i with
 |zero=>exact Nat.le_refl _
 |succ i ih=>unfold cW;split<;>omega
theorem qoo {b:List Wd} {i u n:Nat} (hu:u<n) (h:(b.getD i default).col=(u:Int)):List.take u (gC (cwA b i) n)++ [.int .i64 ((cW b (u:Int) i:Int)+1)]++List.drop (u+1) (gC (cwA b i) n)=gC (cwA b (i+1)) n:=by
 rw [qre _ hu]
 refine qaw fun k hk=> ?_
 unfold cwA
 have e:cW b (k:Int) (i+1)=cW b (k:Int) i+if (b.getD i default).col=(k:Int) then 1 else 0:=rfl
 rw [e]
 by_cases g:k=u
 ·subst g;rw [if_pos rfl,if_pos h];rfl
 ·rw [if_neg g,if_neg (by rw [h];omega)];rfl
theorem pvP (x:Co) (l:List Un) (b:List Wd) (h:List AObj) (hz:qvh x) (hu:qvz l) (hb:b.length≤1000000000) (ht: ∀i,(b.getD i default).text.length≤1000000000) (hp:kY SG h):
  ACalls Tryz.prog 38 [.agg (coC x),qE l,qM b] h (.int .i64 (pvE x l b)) h:=by
 have c1:=fun l'=>vaP x l (h++l') hz hu (hp.app l')
 obtain ⟨R,hR⟩: ∃R,R=pvE x l b:=⟨_,rfl⟩
 rw [←hR]
 unfold pvE at hR
 by_cases g:vaE x l=0
 case neg=>
  have k1:(vaE x l=0)=False:=eq_false g
  rw [if_pos g]at hR
  rw [hR]
  obtain ⟨e,he⟩: ∃e,e=vaE x l:=⟨_,rfl⟩
  rw [←he]at c1 k1 ⊢
  unfold coC at c1
  refine acO qyl ?_
  simp (disch:=omega) only [qAl,coC,k1,go_sem]
  repeat' first
   |((first|refine cA (c1 _) ?_ ?_|refine cG (fun e=>c1 _) ?_ ?_|refine cU (fun _=>c1 _) ?_ ?_);exact flk;simp (disch:=omega) only [coC,k1,go_sem])
   |((first|apply qd|apply qb);exact rvk;simp only [go_sem];first|exact ql|apply qe|apply qa|apply qf|skip)
   |with_reducible first|intro _|apply aiA
  all_goals try exact clz
 rw [if_neg (fun hc=>hc g)]at hR
 rw [g]at c1
 unfold coC qp at c1
 have hv:coE x=0∧qm6 x l=true∧cvA x l=true:=by
  unfold vaE at g
  split at g
  ·cases g
  rename_i g1
  split at g
  ·cases g
  rename_i g2
  have g2:rgB x l=true:=by simpa using g2
  unfold rgB at g2
  rw [Bool.and_eq_true]at g2
  exact ⟨Classical.not_not.1 g1,g2⟩
 have ho:=qgE hv.1
 have hcl:=hz.cl
 have k0:(0≤(x.col.length:Int))=True:=eq_true (by omega)
 have k1:((x.col.length:Int)≤9223372036854775807)=True:=eq_true (by omega)
 refine acO qyl ?_
 simp (disch:=omega) only [qAl,coC,qp,qM,k0,k1,go_sem]
 repeat' first
  |((first|refine cA (c1 _) ?_ ?_|refine cG (fun e=>c1 _) ?_ ?_|refine cU (fun _=>c1 _) ?_ ?_);exact flk;simp (disch:=omega) only [coC,qp,qM,k0,k1,go_sem])
  |((first|apply qd|apply qb);exact rvk;simp only [go_sem];first|exact ql|apply qe|apply qa|apply qf|skip)
  |with_reducible first|intro _|apply aiA
 all_goals try exact clz
 all_goals try rw [Int.toNat_natCast]
 rw [qlh]
 have e0:gC (fun _=>AV.int .i64 0) x.col.length=gC (cwA b 0) x.col.length:=qaw fun k _=>rfl
 rw [e0]
 refine qu (T:=fun i:Nat×Nat×AObj=>qT 92 [(1,qE l),(2,qM b),(3,.op h.length 1 0),(8,.osl (h.length+1) 1 1 0 x.col.length),(9,.op (h.length+2) i.2.1 0),(28,qM b),(29,.int .i64 b.length),(30,.int .i64 i.1)])
  (H:=fun i=>h++ [.mem 1 26 (coC x),.mem 1 3 (gC (cwA b i.1) x.col.length),.mem i.2.1 64 (wdC (qjf b i.1)),i.2.2,.emp 0,.emp 0])
  (inv:=fun i=>i.1≤b.length∧qP [i.2.2] 0=true∧ ∀j,j<i.1→qnE x l b j=0) (m:=fun i=>b.length-i.1) (0,1,.emp 0) ⟨Nat.zero_le _,rfl,fun j hj=>absurd hj (Nat.not_lt_zero j)⟩ (Wk.temps ?_) ?_
 ·(simp only [qM,qE,go_sem,qk,qh,qg,qj];try (repeat' first|(with_reducible apply aiA)|(apply qe;omega)|(apply qa;rfl)|exact ql))
 rintro ⟨i,v,O⟩ ⟨i1,i2,i3⟩ K hK
 simp only at i1 i2 i3 hK
 have i2': ∀m,qP (O::m) 0=true:=fun _=>i2
 by_cases hi:i<b.length
 ·have k2:((i:Int)<b.length)=True:=eq_true (by omega)
  have hE:=zQ (f:=qnE x l b) hi i3
  have hS:qnE x l b i=0→ ∀j,j<i+1→qnE x l b j=0:=fun hx j hj=>by
   by_cases e:j=i
   ·subst e;exact hx
   ·exact i3 j (by omega)
  have c2:=fun h=>qDB x l (b.getD i default) (qjf b i) (decide (i=0)) h hu.n hcl (ht i)
  have hw:qnE x l b i=wdE x l (b.getD i default) (qjf b i) (decide (i=0)):=rfl
  have hrg:= @quH x l (b.getD i default) (qjf b i) (decide (i=0))
  have hbn:qjf b (i+1)=b.getD i default:=by unfold qjf;rw [if_neg (by omega),Nat.add_sub_cancel]
  have hcs:=fun u=> @qoo b i u x.col.length
  have hle:=fun c=>qAp b c i
  have ei:decide ((i:Int)=0)=decide (i=0):=decide_eq_decide.2 (by omega)
  obtain ⟨w,hwx⟩: ∃w,w=b.getD i default:=⟨_,rfl⟩
  have ew:=hwx.symm
  obtain ⟨w0,hw0⟩: ∃w0,w0=qjf b i:=⟨_,rfl⟩
  have ew0:=hw0.symm
  simp only [ew]at c2 hw hrg hbn hcs
  simp only [ew0]at c2 hw hrg
  rw [←hw]at hrg
  simp only [←hw]at c2
  obtain ⟨e,he⟩: ∃e,e=qnE x l b i:=⟨_,rfl⟩
  rw [←he]at hE hS hrg
  simp only [←he]at c2
  obtain ⟨fb,hfb⟩: ∃fb,fb=decide (i=0):=⟨_,rfl⟩
  rw [←hfb]at ei
  simp only [←hfb]at c2
  unfold coC qp wdC at c2
  by_cases g1:e=0
  case neg=>
   have k3:(e=0)=False:=eq_false g1
   have hV:R=e:=by rw [hR,if_pos (by rw [hE g1];exact g1),hE g1]
   rw [hV]
   simp (disch:=omega) only [coC,qp,qM,wdC,k2,ew,ew0,ei,i2',k3,go_sem]
   repeat' first
    |((first|refine cA (c2 _) ?_ ?_|refine cG (fun e=>c2 _) ?_ ?_|refine cU (fun _=>c2 _) ?_ ?_);exact flk;simp (disch:=omega) only [coC,qp,qM,wdC,k2,k3,ew,ew0,ei,i2',go_sem])
    |((first|apply qd|apply qb);exact rvk;simp only [go_sem];first|exact ql|apply qe|apply qa|apply qf|skip)
    |with_reducible first|intro _|apply aiA
   all_goals try exact clz
  have k3:(e=0)=True:=eq_true g1
  obtain ⟨r1,r2⟩:=hrg g1
  obtain ⟨u,hu'⟩: ∃u:Nat,w.col=(u:Int):=⟨w.col.toNat,by omega⟩
  simp only [hu']at c2
  have un:u<x.col.length:=by omega
  have t2:(0≤(u:Int))=True:=eq_true (by omega)
  have t3:((u:Int)<x.col.length)=True:=eq_true (by omega)
  have t4:(u<x.col.length)=True:=eq_true un
  have t5:(u+1≤x.col.length)=True:=eq_true un
  have gl:=qam (cwA b i) x.col.length
  have gg:=qcC (g:=cwA b i) un
  have hst:=hcs u un hu'
  have hle:=hle (u:Int)
  have hcw:cwA b i u= .int .i64 (cW b (u:Int) i:Int):=rfl
  rw [hcw]at gg
  obtain ⟨q,hq⟩: ∃q,q=cW b (u:Int) i:=⟨_,rfl⟩
  rw [←hq]at gg hst hle
  have b2:((q:Int)+1≤9223372036854775807)=True:=eq_true (by omega)
  have b3:(-9223372036854775808≤(q:Int)+1)=True:=eq_true (by omega)
  simp (disch:=omega) only [coC,qp,qM,wdC,k2,ew,ew0,ei,i2',k3,hu',t2,t3,t4,t5,gl,gg,hst,b2,b3,Nat.mul_one,Nat.zero_add,Option.isSome_some,go_sem]
  repeat' first
   |((first|refine cA (c2 _) ?_ ?_|refine cG (fun e=>c2 _) ?_ ?_|refine cU (fun _=>c2 _) ?_ ?_);exact flk;simp (disch:=omega) only [coC,qp,qM,wdC,k2,k3,ew,ew0,ei,i2',hu',t2,t3,t4,t5,gl,gg,hst,b2,b3,Nat.mul_one,Nat.zero_add,Option.isSome_some,go_sem])
   |((first|apply qd|apply qb);exact rvk;simp only [go_sem];first|exact ql|apply qe|apply qa|apply qf|skip)
   |with_reducible first|intro _|apply aiA
  all_goals try exact clz
  try rw [hst]
  refine hK _ _ (i+1,v,.mem (qx (some O)+1) 64 (wdC w)) ⟨hi,rfl,hS g1⟩ (by simp only;omega) ?_
  simp only [hbn,wdC,hu']
  refine Wk.temps ?_
  (simp only [qM,qE,go_sem,qk,qh,qg,qj];try (repeat' first|(with_reducible apply aiA)|(apply qe;omega)|(apply qa;rfl)|exact ql))
 have k2:((i:Int)<b.length)=False:=eq_false (by omega)
 obtain rfl:i=b.length:=by omega
 have hn0:=qW (f:=qnE x l b) (fun j (hj:j<b.length)=>i3 j hj)
 rw [if_neg (fun hc=>hc hn0)]at hR
 clear hK
 obtain ⟨w0,hw0⟩: ∃w0,w0=qjf b b.length:=⟨_,rfl⟩
 have ew0:=hw0.symm
 rw [ew0]
 simp (disch:=omega) only [coC,qp,qM,k2,i2',go_sem]
 repeat' first
  |((first|apply qd|apply qb);exact rvk;simp only [go_sem];first|exact ql|apply qe|apply qa|apply qf|skip)
  |with_reducible first|intro _|apply aiA
 all_goals try exact clz
 obtain ⟨cb,hcb⟩: ∃f:Nat→Int,f=qAt x l b:=⟨_,rfl⟩
 rw [←hcb]at hR
 have z0:((0:Nat):Int)=0:=rfl
 have hto:0<x.tok.length:=by have:=ho.tn;have:=ho.sg;omega
 refine qu (T:=fun i:Nat×AObj×AObj=>qT 92 [(1,qE l),(2,qM b),(3,.op h.length 1 0),(8,.osl (h.length+1) 1 1 0 x.col.length),(55,qp x.col),(56,.int .i64 x.col.length),(57,.int .i64 i.1)])
  (H:=fun i=>h++ [.mem 1 26 (coC x),.mem 1 3 (gC (cwA b b.length) x.col.length),.mem v 64 (wdC w0),O,i.2.1,i.2.2])
  (inv:=fun i=>i.1≤x.col.length∧qP [i.2.1] 0=true∧qP [i.2.2] 0=true∧ ∀j,j<i.1→cb j=0) (m:=fun i=>x.col.length-i.1) (0,.emp 0,.emp 0) ⟨Nat.zero_le _,rfl,rfl,fun j hj=>absurd hj (Nat.not_lt_zero j)⟩ (Wk.temps ?_) ?_
 ·(simp only [qM,qE,coC,qp,go_sem,qk,qh,qg,qj];try (repeat' first|(with_reducible apply aiA)|(apply qe;omega)|(apply qa;rfl)|exact ql))
 rintro ⟨i,O1,O2⟩ ⟨i1,j1,j2,j3⟩ K hK
 simp only at i1 j1 j2 j3 hK
 have j1': ∀m,qP (O1::m) 0=true:=fun _=>j1
 have j2': ∀m,qP (O2::m) 0=true:=fun _=>j2
 by_cases hi:i<x.col.length
 ·have k3:((i:Int)<x.col.length)=True:=eq_true (by omega)
  have t2:(0≤(i:Int))=True:=eq_true (by omega)
  have hE:=zQ (f:=cb) hi j3
  have hS:cb i=0→ ∀j,j<i+1→cb j=0:=fun hx j hj=>by
   by_cases e:j=i
   ·subst e;exact hx
   ·exact j3 j (by omega)
  have hci:cb i=if 0≤fnU l (i:Int) then 0 else if ccB x b i=true then 0 else 9:=by rw [hcb];rfl
  have hcc:ccB x b i=(decide (cW b (i:Int) b.length=1)&&zd (fun j=>decide ((b.getD j default).col=(i:Int))&&decide ((b.getD j default).text=txA x i)) b.length):=rfl
  have hto2:= @qtM x l ho hv.2.2 i hi
  have eF:fnR l (i:Int)=fnU l (i:Int):=if_neg (by omega)
  have eE:fnE (i:Int)=0:=if_neg (by omega)
  have c3:=fun h=>qCa l (i:Int) h hu.n
  simp only [eF,eE]at c3
  have htx:txA x i=((x.tok.getD 0 []).getD ((x.col.getD i []).getD 0 0).toNat default).text:=rfl
  have hcl0:=ho.cl i hi
  obtain ⟨c,hcx⟩: ∃c,c=x.col.getD i []:=⟨_,rfl⟩
  have ec:=hcx.symm
  rw [ec]at hto2 htx hcl0
  obtain ⟨t,htt⟩: ∃t,t=c.getD 0 0:=⟨_,rfl⟩
  have et:=htt.symm
  rw [et]at hto2 htx
  obtain ⟨tk,htk⟩: ∃tk,tk=x.tok.getD 0 []:=⟨_,rfl⟩
  have etk:=htk.symm
  rw [etk]at hto2 htx
  obtain ⟨p,hpx⟩: ∃p,p=fnU l (i:Int):=⟨_,rfl⟩
  rw [←hpx]at hci hto2
  simp only [←hpx]at c3
  unfold qE at c3
  by_cases g1:0≤p
  ·have k4:(0≤p)=True:=eq_true g1
   rw [if_pos g1]at hci
   simp (disch:=omega) only [coC,qp,qE,qq,k3,ec,j1',j2',k4,go_sem]
   repeat' first
    |((first|refine cA (c3 _) ?_ ?_|refine cG (fun e=>c3 _) ?_ ?_|refine cU (fun _=>c3 _) ?_ ?_);exact flk;simp (disch:=omega) only [coC,qp,qE,qq,k3,k4,ec,j1',j2',go_sem])
    |((first|apply qd|apply qb);exact rvk;simp only [go_sem];first|exact ql|apply qe|apply qa|apply qf|skip)
    |with_reducible first|intro _|apply aiA
   all_goals try exact clz
   refine hK _ _ (i+1,.mem (qx (some O1)+1) 3 [.int .i64 (i:Int)],O2) ⟨hi,rfl,j2,hS hci⟩ (by simp only;omega) (Wk.temps ?_)
   (simp only [qM,qE,coC,qp,go_sem,qk,qh,qg,qj];try (repeat' first|(with_reducible apply aiA)|(apply qe;omega)|(apply qa;rfl)|exact ql))
  have k4:(0≤p)=False:=eq_false g1
  rw [if_neg g1]at hci
  obtain ⟨o1,o2⟩:=hto2 (by omega)
  have k5:(0≤t)=True:=eq_true o1
  have k6:(t<tk.length)=True:=eq_true o2
  have k7:((0:Int)<c.length)=True:=eq_true (by have:=ho.sg;omega)
  have k8:((0:Int)<x.tok.length)=True:=eq_true (by omega)
  obtain ⟨tt,htt2⟩: ∃tt,tt=tk.getD t.toNat default:=⟨_,rfl⟩
  have ett:=htt2.symm
  rw [ett]at htx
  rw [htx]at hcc
  have gl:=qam (cwA b b.length) x.col.length
  have gg:=qcC (g:=cwA b b.length) hi
  have hcw:cwA b b.length i= .int .i64 (cW b (i:Int) b.length:Int):=rfl
  rw [hcw]at gg
  have t4:(i<x.col.length)=True:=eq_true hi
  have t5:(i+1≤x.col.length)=True:=eq_true hi
  obtain ⟨q,hq⟩: ∃q,q=cW b (i:Int) b.length:=⟨_,rfl⟩
  rw [←hq]at gg hcc
  have c4:=fun v v2 H hk hk2=>qCA b (i:Int) tt.text (h.length+4) v (h.length+5) v2 H hk hk2 hb
  simp (disch:=omega) only [coC,qp,qE,qq,k3,k4,ec,j1',j2',go_sem]
  repeat' first
   |((first|refine cA (c3 _) ?_ ?_|refine cG (fun e=>c3 _) ?_ ?_|refine cU (fun _=>c3 _) ?_ ?_);exact flk;simp (disch:=omega) only [coC,qp,qE,qq,k3,k4,ec,j1',j2',go_sem])
   |((first|apply qd|apply qb);exact rvk;simp only [go_sem];first|exact ql|apply qe|apply qa|apply qf|skip)
   |with_reducible first|intro _|apply aiA
  all_goals try exact clz
  refine qfI ?T ?H ?h1 ?h2
  case h1=>
   simp (disch:=omega) only [coC,qp,qq,qr,jE,tkC,k3,k5,k6,k7,k8,t2,ec,et,etk,ett,j2',z0,Int.toNat_zero,go_sem]
   repeat' first
    |((first|apply qd|apply qb);exact rvk;simp only [go_sem];first|exact ql|apply qe|apply qa|apply qf|skip)
    |with_reducible first|intro _|apply aiA
   all_goals first
    |omega
    |rfl
  case h2=>
  by_cases g2:q=1
  case neg=>
   have k9:((q:Int)=1)=False:=eq_false (by omega)
   rw [decide_eq_false g2,Bool.false_and]at hcc
   rw [hcc,if_neg (by simp)]at hci
   have hV:R=9:=by rw [hR,hE (by rw [hci];decide),hci]
   rw [hV]
   simp (disch:=omega) only [k9,t2,t4,t5,gl,gg,j1',j2',Nat.mul_one,Nat.zero_add,z0,go_sem]
   repeat' first
    |(refine qn ( .bool false) ?_;simp (disch:=omega) only [k9,t2,t4,t5,gl,gg,j1',j2',Nat.mul_one,Nat.zero_add,z0,go_sem])
    |((first|apply qd|apply qb);exact rvk;simp only [go_sem];first|exact ql|apply qe|apply qa|apply qf|skip)
    |with_reducible first|intro _|apply aiA
   all_goals try exact clz
  have k9:((q:Int)=1)=True:=eq_true (by omega)
  rw [decide_eq_true g2,Bool.true_and]at hcc
  have c4:=c4 (qx (some O1)+1) (qx (some O2)+1)
  obtain ⟨B,hB⟩: ∃B,B=zd (fun j=>decide ((b.getD j default).col=(i:Int))&&decide ((b.getD j default).text=tt.text)) b.length:=⟨_,rfl⟩
  rw [←hB]at hcc
  simp only [←hB]at c4
  unfold qM at c4
  simp (disch:=omega) only [k9,t2,t4,t5,gl,gg,j1',j2',Nat.mul_one,Nat.zero_add,z0,qM,go_sem]
  repeat' first
   |((first|apply qd|apply qb);exact rvk;simp only [go_sem];first|exact ql|apply qe|apply qa|apply qf|skip)
   |with_reducible first|intro _|apply aiA
  all_goals try exact clz
  refine cG (fun _=>c4 _ ?ka ?kb) (fun _=>by exact flk) ?_
  case ka=>simp only [go_sem]
  case kb=>simp only [go_sem]
  cases B with
  |false=>
   rw [hcc,if_neg (by simp)]at hci
   have hV:R=9:=by rw [hR,hE (by rw [hci];decide),hci]
   rw [hV]
   simp (disch:=omega) only [go_sem]
   repeat' first
    |((first|apply qd|apply qb);exact rvk;simp only [go_sem];first|exact ql|apply qe|apply qa|apply qf|skip)
    |with_reducible first|intro _|apply aiA
   all_goals try exact clz
  |true=>
   rw [hcc,if_pos rfl]at hci
   simp (disch:=omega) only [go_sem]
   repeat' first
    |((first|apply qd|apply qb);exact rvk;simp only [go_sem];first|exact ql|apply qe|apply qa|apply qf|skip)
    |with_reducible first|intro _|apply aiA
   all_goals try exact clz
   refine hK _ _ (i+1,.mem (qx (some O1)+1) 3 [.int .i64 (i:Int)],.mem (qx (some O2)+1) 9 [.str tt.text]) ⟨hi,rfl,rfl,hS hci⟩ (by simp only;omega) (Wk.temps ?_)
   (simp only [qM,qE,coC,qp,go_sem,qk,qh,qg,qj];try (repeat' first|(with_reducible apply aiA)|(apply qe;omega)|(apply qa;rfl)|exact ql))
 ·have k3:((i:Int)<x.col.length)=False:=eq_false (by omega)
  rw [qW (fun j (hj:j<x.col.length)=>j3 j (by omega))]at hR
  rw [hR]
  simp (disch:=omega) only [coC,qp,k3,go_sem]
  repeat' first
   |((first|apply qd|apply qb);exact rvk;simp only [go_sem];first|exact ql|apply qe|apply qa|apply qf|skip)
   |with_reducible first|intro _|apply aiA
  all_goals try exact clz
end RC
end
section
open Go Go.Proofs AF
def qaM:List Nat:= []
def qz5:C:=
 ((C.ops [MC 4 (i6 0),MC 5 (i6 0)]).seq (((C.ops [MV 9 0,O1 10 .len 9,MV 6 10]).seq (C.block 0 ((C.ops [MV 12 6,BC 13 .eql 12 (i6 0),MV 11 13]).seq (C.cond (.t 11) ((C.ops [MC
 4 (i6 0),MC 5 (i6 5)]).seq C.ret) ((C.ops [MV 15 6,BC 16 .gtr 15 (i6 16),MV 14 16]).seq (C.cond (.t 14) ((C.ops [MC 4 (i6 0),MC 5 (i6 4)]).seq C.ret) C.skip)))))).seq (((C.ops
 [MV 17 0,O1 18 .len 17,MC 19 (i6 0)]).seq (C.block 1 ((C.ops [BI 20 .lss 19 18]).seq ((C.cond (.t 20) C.skip (C.exit 1)).seq ((C.block 2 ((C.ops [MV 21 19,O2 22 (.idxA 1) 17 19,
 LD 23 22,MV 7 21,MV 8 23]).seq ((C.ops [MV 24 8,OC 25 (.call 44 true) 24 (.str [32]),MV 26 1,O2 27 (.call 43 true) 25 26,MV 28 27,MG 29 28 true 1,PC 30 28 true (.bin .neq)
 29 (.str []),PF 31 28 30]).seq (C.cond (.t 31) ((C.ops [MV 32 7,MV 4 32,MC 5 (i6 0)]).seq C.ret) C.skip)))).seq (C.ops [BC 33 .add 19 (i6 1),MV 19 33])))).loop)).seq ((C.ops
 [MV 34 0,O1 35 .len 34,BC 36 .sub 35 (i6 1),MV 4 36,MC 5 (i6 0)]).seq
 C.ret))))
theorem qtb:qK Tryz.prog 27 37 0 [RV.tmp 4,RV.tmp 5] qz5:=fi Tryz.f27 [] qaM []
def qAk:C:=
 ((C.ops [O1 3 (.box 0 3) 1,MC 4 (i6 0),MC 5 (i6 0),MC 6 (i6 0)]).seq ((C.ops [O1 10 (.mkfn (Fn.func 105) 0) 3,MV 7 10]).seq ((C.ops [MV 11 0,MV 12 7,O2 13 (.call 106 true) 11
 12,MV 8 13]).seq (((C.ops [MV 14 8,BC 15 .lss 14 (i6 0)]).seq (C.cond (.t 15) ((C.ops [MC 4 (i6 0),MC 5 (i6 0),MC 6 (i6 6)]).seq C.ret) C.skip)).seq ((C.ops [MV 16 8,MV 9
 16]).seq ((C.block 0 (((C.ops [MV 17 9,MV 18 0,O1 19 .len 18,BI 20 .lss 17 19,MV 21 20,MG 22 21 true 7,MG 23 21 true 0,MG 24 21 true 9,P2 25 21 true (.idxA 7) 23 24,P1 26
 21 true (.load (some 7)) 25,P2 27 21 true .callv 22 26,PF 28 21 27]).seq (C.cond (.t 28) C.skip (C.exit 0))).seq (C.block 1 (C.ops [MV 29 9,BC 30 .add 29 (i6 1),MV 9
 30]))).loop).seq (((C.ops [MV 31 0,MV 32 9,O2 33 (.slc 7 true false) 31 32,MV 34 7,O2 35 (.call 92 true) 33 34]).seq (C.cond (.t 35) ((C.ops [MC 4 (i6 0),MC 5 (i6 0),MC 6 (i6
 10)]).seq C.ret) C.skip)).seq ((C.ops [MV 36 8,MV 37 9,MV 4 36,MV 5 37,MC 6 (i6 0)]).seq
 C.ret))))))))
theorem qyk:qK Tryz.prog 31 38 1 [RV.tmp 4,RV.tmp 5,RV.tmp 6] qAk:=fi Tryz.f31 [3] qaM []
def qvJ:C:=
 ((C.ops [O1 2 (.box 0 64) 0,MC 3 (.bool false)]).seq ((C.ops [O1 4 (.fldA 2) 2,LD 5 4,LD 6 1,BI 7 .eql 5 6,MV 3 7]).seq
 C.ret))
theorem qxg:qK Tryz.prog 105 8 1 [RV.tmp 3] qvJ:=fi Tryz.f105 [2] qaM []
def qr2:C:=
 ((C.ops [O1 5 (.box 0 83) 2,MC 6 (i6 0),MC 7 (i6 0)]).seq (((C.ops [MV 15 0,MV 16 1,O2 17 (.call 31 true) 15 16,MV 14 17,O1 18 (.ext 0) 14,O1 19 (.ext 1) 14,O1 20 (.ext 2)
 14,MV 8 18,MV 9 19,MV 10 20]).seq ((C.ops [MV 21 10,BC 22 .eql 21 (i6 0)]).seq (C.cond (.t 22) ((C.ops [MV 23 8,MV 24 9,MV 6 23,MV 7 24]).seq C.ret) C.skip))).seq ((C.ops
 [MC 11 (i6 0)]).seq (((C.ops [MV 25 0,O1 26 .len 25,MC 27 (i6 0)]).seq (C.block 0 ((C.ops [BI 28 .lss 27 26]).seq ((C.cond (.t 28) C.skip (C.exit 0)).seq ((C.block 1 ((C.ops [O2
 29 (.idxA 7) 25 27,O1 30 (.load (some 7)) 29,⟨some 13,none,.alloc 1 64 [.str [],i6 0,i6 0,i6 0,.bool false,.bool false,.str []],[]⟩,ST 7 13 30]).seq ((C.ops [O1 31
 (.fldA 1) 13,LD 32 31,O1 33 (.fldA 0) 5,LD 34 33,BI 35 .lss 32 34]).seq (C.cond (.t 35) (C.ops [MV 36 11,BC 37 .add 36 (i6 1),MV 11 37]) C.skip)))).seq (C.ops [BC 38 .add 27
 (i6 1),MV 27 38])))).loop)).seq ((C.ops [MV 39 11,MV 40 11,MV 6 39,MV 7 40]).seq
 C.ret)))))
theorem qqW:qK Tryz.prog 160 41 2 [RV.tmp 6,RV.tmp 7] qr2:=fi Tryz.f160 [5,13] qaM []
def qvW:C:=
 ((C.ops [O1 5 (.box 0 83) 0,O1 6 (.box 1 22) 1,O1 7 (.box 2 22) 2,O1 8 (.box 3 22) 3,O1 9 (.box 4 3) 4,MC 10 .nilfn]).seq ((C.ops [ON 11 (.mkfn (Fn.func 215) 0) [.t 5,.t 8,
 .t 6,.t 9,.t 7],MV 10 11]).seq
 C.ret))
theorem qxv:qK Tryz.prog 161 12 5 [RV.tmp 10] qvW:=fi Tryz.f161 [5,6,7,8,9] qaM []
def qwa:C:=
 ((C.ops [O1 11 (.fldA 2) 1,LD 12 11,O1 13 .len 12,MC 14 (i6 0)]).seq (C.block 0 ((C.ops [BI 15 .lss 14 13]).seq ((C.cond (.t 15) C.skip (C.exit 0)).seq ((C.block 1 ((C.ops [MV
 16 14,O2 17 (.idxA 2) 12 14,O1 18 (.load (some 2)) 17,⟨some 8,none,.alloc 0 89 [.nl,.nl],[]⟩,MV 7 16,ST 2 8 18]).seq ((C.ops [LD 20 2,LD 21 3,MV 22 7,O2 23 (.idxA 1) 21
 22,LD 24 23,O2 25 (.call 27 true) 20 24,MV 19 25,O1 26 (.ext 0) 19,O1 27 (.ext 1) 19,MV 9 26,MV 10 27]).seq ((C.ops [MV 28 9,LD 29 4,BI 30 .eql 28 29,MV 31 30,P1 32 31
 true (.fldA 0) 8,P1 33 31 true (.load none) 32,P1 34 31 true (.load none) 5,P2 35 31 true (.call 139 true) 33 34,P1 36 31 true (.un UnOp.not) 35,PF 37 31 36,MV 38 37,MG 39
 38 true 0,P1 40 38 true (.load (some 2)) 8,P2 41 38 true .callv 39 40,P1 42 38 true (.un UnOp.not) 41,PF 43 38 42]).seq (C.cond (.t 43) C.ret C.skip))))).seq (C.ops [BC 44 .add
 14 (i6 1),MV 14
 44])))).loop))
theorem qxM:qK Tryz.prog 215 45 1 [] qwa:=fi Tryz.f215 [8] qaM []
def qvX:C:=
 ((C.ops [O1 2 (.box 0 89) 0,MC 3 (.bool false)]).seq ((C.ops [O1 4 (.fldA 0) 2,LD 5 4,LD 6 1,O2 7 (.call 139 true) 5 6,MV 3 7]).seq
 C.ret))
theorem qxw:qK Tryz.prog 162 8 1 [RV.tmp 3] qvX:=fi Tryz.f162 [2] qaM []
end
section
set_option linter.unusedVariables false
namespace Go.Proofs
open Go.Shelf Go.RowKit Go.Lib
set_option maxHeartbeats 1000000 in
set_option maxRecDepth 100000 in
theorem qkD (s:ByteArray) (c:UInt8) (w:World):
  Calls Tryz.prog 183 #[.string s,.string ⟨#[c]⟩] w fun e w'=>e= .returned (.int .i64 (Lib.countByte s.data.toList c))∧w'=w:=by
 go_enter Tryz.func183,Tryz.ntmps183
 go_wp2
 rw [run_callFunc_extern Tryz.func239 (by kernel_rfl) (by kernel_rfl) (by kernel_rfl) (e:=Extern.BytealgCount.count) (by kernel_rfl),Lib.run_countString]
 simp only [Result.andThen]
 rw [Oper.upon_value]
 go_wp2
 go_ret
 exact ⟨rfl,rfl⟩
set_option maxHeartbeats 2000000 in
set_option maxRecDepth 100000 in
theorem qlu (s:ByteArray) (c:UInt8) (w:World):
  Calls Tryz.prog 240 #[.string s,.string ⟨#[c]⟩] w fun e w'=>e= .returned (.int .i64 (Lib.indexByte s.data.toList c))∧w'=w:=by
 have e95: ∀args w,(callFunc 280 args).run Tryz.prog w= .ok (.enter 280 args) w:=enters_of Tryz.func280 (by kernel_rfl) rfl
 go_enter Tryz.func240,Tryz.ntmps240
 go_wp2_with (go_at_fn 280;refine (qgV _ _ _).mono ?_;rintro e w' ⟨rfl,rfl⟩)
 ·have h:([c]==s.toList)=true:=by assumption
  go_ret
  refine ⟨?_,rfl⟩
  have e:s.data.toList= [c]:=by rw [←Lib.toList_data];exact (beq_iff_eq.1 h).symm
  rw [e]
  simp [Lib.indexByte]
 ·go_ret
  exact ⟨rfl,rfl⟩
set_option maxHeartbeats 1000000 in
theorem qo2 (s:ByteArray) (c:UInt8) (w:World):
  Calls Tryz.prog 184 #[.string s,.string ⟨#[c]⟩] w fun e w'=>e= .returned (.int .i64 (Lib.indexByte s.data.toList c))∧w'=w:=by
 have e114: ∀args w,(callFunc 240 args).run Tryz.prog w= .ok (.enter 240 args) w:=enters_of Tryz.func240 (by kernel_rfl) rfl
 go_enter Tryz.func184,Tryz.ntmps184
 go_wp2_with (go_at_fn 240;refine (qlu _ _ _).mono ?_;rintro e w' ⟨rfl,rfl⟩)
 go_ret
 exact ⟨rfl,rfl⟩
end Go.Proofs
end
section
open Go Go.Proofs AF HY
namespace HY
theorem qDt (s:List UInt8) (c:UInt8) (h:List AObj):ACalls Tryz.prog 183 [.str s,.str [c]] h (.int .i64 (s.count c)) h:=by
 refine ⟨qvs Tryz.func183 (by kernel_rfl) (by kernel_rfl),fun w σ xs H hv=> ?_⟩
 obtain ⟨x,y,rfl,hx,hy⟩:=hv.two
 rw [zU hx,zU hy]
 refine (callsIn_wide.2 (qkD ⟨s.toArray⟩ c w)).mono ?_
 rintro e w' ⟨rfl,rfl⟩
 exact ⟨_,σ,rfl,H,.imm .int,Ext.refl _ _⟩
theorem qDu (s:List UInt8) (c:UInt8) (h:List AObj):ACalls Tryz.prog 184 [.str s,.str [c]] h (.int .i64 (Go.Lib.indexByte s c)) h:=by
 refine ⟨qvs Tryz.func184 (by kernel_rfl) (by kernel_rfl),fun w σ xs H hv=> ?_⟩
 obtain ⟨x,y,rfl,hx,hy⟩:=hv.two
 rw [zU hx,zU hy]
 refine (callsIn_wide.2 (qo2 ⟨s.toArray⟩ c w)).mono ?_
 rintro e w' ⟨rfl,rfl⟩
 exact ⟨_,σ,rfl,H,.imm .int,Ext.refl _ _⟩
def qac (c:UInt8) (s:List UInt8):Nat:=(s.takeWhile (· !=c)).length
def kT (c:UInt8) (s:List UInt8):Nat→List UInt8
 |0=>s
 |i+1=>(kT c s i).drop (qac c (kT c s i)+1)
def ki (c:UInt8) (s:List UInt8) (i:Nat):List UInt8:=if i<s.count c then (kT c s i).take (qac c (kT c s i)) else kT c s i
def kh (c:UInt8) (s:List UInt8):List (List UInt8):=(List.range (s.count c+1)).map (ki c s)
theorem qbJ (c:UInt8) (s:List UInt8):(kh c s).length=s.count c+1:=by simp [kh]
theorem qav (c b:UInt8) (s:List UInt8):qac c (b::s)=if b=c then 0 else qac c s+1:=by
 unfold qac
 rw [List.takeWhile_cons]
 by_cases e:b=c
 ·simp [e]
 ·simp [e]
theorem qlp (c:UInt8): ∀(s:List UInt8),0<s.count c→Go.Lib.indexByte s c=qac c s:=by
 intro s
 induction s with
 |nil=>intro h;simp at h
 |cons b s ih=>
  intro h
  unfold Go.Lib.indexByte
  rw [qav]
  by_cases e:b=c
  ·simp [e]
  ·rw [List.count_cons,if_neg (by simpa using e)]at h
   have:=ih (by omega)
   rw [if_neg (by simpa using e),if_neg e,this,if_neg (by simp<;>omega)]
   rfl
theorem qoj (c:UInt8): ∀(s:List UInt8),0<s.count c→qac c s<s.length:=by
 intro s
 induction s with
 |nil=>intro h;simp at h
 |cons b s ih=>
  intro h
  rw [qav]
  by_cases e:b=c
  ·simp [e]
  ·rw [List.count_cons,if_neg (by simpa using e)]at h
   have:=ih (by omega)
   rw [if_neg e,List.length_cons]
   omega
theorem qev (c:UInt8): ∀(s:List UInt8),0<s.count c→(s.drop (qac c s+1)).count c=s.count c-1:=by
 intro s
 induction s with
 |nil=>intro h;simp at h
 |cons b s ih=>
  intro h
  rw [qav]
  by_cases e:b=c
  ·simp [e]
  ·rw [List.count_cons,if_neg (by simpa using e)]at h
   have:=ih (by omega)
   rw [if_neg e,List.drop_succ_cons,this,List.count_cons,if_neg (by simpa using e)]
   rfl
theorem qhJ (c:UInt8) (s:List UInt8): ∀i,i≤s.count c→(kT c s i).count c=s.count c-i:=by
 intro i
 induction i with
 |zero=>intro _;rfl
 |succ i ih=>
  intro h
  have:=ih (by omega)
  show ((kT c s i).drop _).count c=_
  rw [qev _ _ (by omega),this]
  omega
theorem qpM (c:UInt8) (s:List UInt8): ∀i,(kT c s i).length≤s.length:=by
 intro i
 induction i with
 |zero=>exact Nat.le_refl _
 |succ i ih=>show ((kT c s i).drop _).length≤_;rw [List.length_drop];omega
def qaF (c:UInt8) (s:List UInt8) (i:Nat):List (List UInt8):=(List.range (s.count c+1)).map fun j=>if j<i then ki c s j else []
theorem qfe (c:UInt8) (s:List UInt8) (i:Nat):(qaF c s i).length=s.count c+1:=by simp [qaF]
theorem qmQ (c:UInt8) (s:List UInt8) {i:Nat} (hi:i<s.count c+1):(qaF c s i).set i (ki c s i)=qaF c s (i+1):=by
 apply List.ext_getElem
 ·simp [qaF]
 ·intro j h1 h2
  simp only [qaF,List.length_set,List.length_map,List.length_range]at h1
  rw [List.getElem_set]
  simp only [qaF,List.getElem_map,List.getElem_range]
  by_cases e:i=j
  ·subst e;simp
  ·rw [if_neg e]
   by_cases e2:j<i
   ·rw [if_pos e2,if_pos (by omega)]
   ·rw [if_neg e2,if_neg (by omega)]
theorem qmP (c:UInt8) (s:List UInt8):qaF c s (s.count c+1)=kh c s:=by
 unfold qaF kh
 apply List.map_congr_left
 intro j hj
 rw [if_pos (by simpa using hj)]
theorem qqc (L:List (List UInt8)) {i:Nat} (x:List UInt8) (hi:i<L.length):List.take i (jj L)++ [.str x]++List.drop (i+1) (jj L)=jj (L.set i x):=by
 unfold jj
 rw [List.map_set,List.set_eq_take_append_cons_drop,if_pos (by simpa using hi),List.append_assoc]
 rfl
theorem qh6 (n:Nat):zu [.str []] n=jj (List.replicate n []):=by
 induction n with
 |zero=>rfl
 |succ n ih=>simp only [zu,ih,List.replicate_succ];rfl
theorem qiE (c:UInt8) (s:List UInt8):List.replicate (s.count c+1) []=qaF c s 0:=by
 apply List.ext_getElem
 ·simp [qaF]
 ·intro j h1 h2;simp [qaF]
set_option maxHeartbeats 4000000 in
theorem u78 (s:List UInt8) (c:UInt8) (h:List AObj) (hs:s.length≤1000000000):ACalls Tryz.prog 118 [.str s,.str [c],.int .i64 0,.int .i64 (-1)] h (strs (kh c s)) h:=by
 have c100:=fun h=>qDt s c h
 have hcl:s.count c≤s.length:=List.count_le_length
 obtain ⟨N,hN⟩: ∃N,N=s.count c:=⟨_,rfl⟩
 have k1:((N:Int)+1≤(s.length:Int)+1)=True:=eq_true (by omega)
 have e1:min ((N:Int)+1) ((s.length:Int)+1)=(N:Int)+1:=by omega
 have e2:((N:Int)+1).toNat=N+1:=by omega
 have e3:zu [AV.str []] (N+1)=jj (qaF c s 0):=by rw [qh6,←qiE,hN]
 have e4:((N:Int)+1-1)=N:=by omega
 simp only [←hN]at c100
 refine acO qxi ?_
 simp (disch:=omega) only [qvK,k1,e1,e2,e3,e4,go_sem]
 repeat' first
  |((first|refine cA (c100 _) ?_ ?_|refine cG (fun e=>c100 _) ?_ ?_|refine cU (fun _=>c100 _) ?_ ?_);exact flk;simp (disch:=omega) only [k1,e1,e2,e3,e4,go_sem])
  |((first|apply qd|apply qb);exact rvk;simp only [go_sem];first|exact ql|apply qe|apply qa|apply qf|skip)
  |with_reducible first|intro _|apply aiA
 all_goals try exact clz
 refine qu (T:=fun i:Nat=>qT 66 [(0,.str (kT c s i)),(1,.str [c]),(2,.int .i64 0),(3,.int .i64 N),(9,.osl (h.length+1) 1 1 0 (N+1)),(10,.int .i64 i)]) (H:=fun i=>h++ [.emp 1,.mem 1 9 (jj (qaF c s i))])
  (inv:=fun i=>i≤N) (m:=fun i=>N-i) 0 (by omega) (Wk.temps ?_) ?_
 ·(simp only [kT,go_sem,qk,qh,qg,qj];try (repeat' first|(with_reducible apply aiA)|(apply qe;omega)|(apply qa;rfl)|exact ql))
 rintro i i1 K hK
 have eL:=jL (qaF c s i)
 rw [qfe,←hN]at eL
 have hst:=qqc (qaF c s i) (i:=i) (ki c s i) (by rw [qfe];omega)
 rw [qmQ c s (by omega)]at hst
 by_cases hi:i<N
 ·obtain ⟨r,hr⟩: ∃r,r=kT c s i:=⟨_,rfl⟩
  have hcr:=qhJ c s i (by omega)
  rw [←hr]at hcr
  have hix:=qlp c r (by omega)
  have hlt:=qoj c r (by omega)
  have hrl:=qpM c s i
  rw [←hr]at hrl
  have hP:ki c s i=r.take (qac c r):=by unfold ki;rw [if_pos (by omega),←hr]
  have hR:kT c s (i+1)=r.drop (qac c r+1):=by rw [hr];rfl
  obtain ⟨m,hm⟩: ∃m,m=qac c r:=⟨_,rfl⟩
  rw [←hm]at hix hlt hP hR
  have c101:=fun h=>qDu r c h
  simp only [hix]at c101
  rw [hP]at hst
  simp (disch:=omega) only [qT,List.foldl,hr.symm,eL,hst,go_sem]
  repeat' first
   |((first|refine cA (c101 _) ?_ ?_|refine cG (fun e=>c101 _) ?_ ?_|refine cU (fun _=>c101 _) ?_ ?_);exact flk;simp (disch:=omega) only [eL,hst,go_sem])
   |((first|apply qd|apply qb);exact rvk;simp only [go_sem];first|exact ql|apply qe|apply qa|apply qf|skip)
   |with_reducible first|intro _|apply aiA
  all_goals try exact clz
  have f1:(((m:Nat):Int)+0).toNat-0=m:=by omega
  have f2:(((m:Nat):Int)+((1:Nat):Int)).toNat=m+1:=by omega
  have f3:List.take (r.length-(m+1)) (List.drop (m+1) r)=kT c s (i+1):=by rw [hR];exact List.take_of_length_le (by rw [List.length_drop];exact Nat.le_refl _)
  rw [f1,hst,f2,f3]
  refine hK _ _ (i+1) (by omega) (by omega) (Wk.temps ?_)
  (simp only [go_sem,qk,qh,qg,qj];try (repeat' first|(with_reducible apply aiA)|(apply qe;omega)|(apply qa;rfl)|exact ql))
 ·have e:i=N:=by omega
  subst e
  simp (disch:=omega) only [qT,List.foldl,eL,hst,go_sem]
  repeat' first
   |((first|apply qd|apply qb);exact rvk;simp only [go_sem];first|exact ql|apply qe|apply qa|apply qf|skip)
   |with_reducible first|intro _|apply aiA
  all_goals try exact clz
  have hP:ki c s i=kT c s i:=by unfold ki;rw [if_neg (by omega)]
  have f1:(((i:Nat):Int)+1).toNat-0=i+1:=by omega
  have hall:=qmP c s
  rw [←hN]at hall
  rw [hP,hall]at hst
  rw [hst,f1,if_pos (by rw [jL,qbJ];omega)]
  exact qbM (by rw [qbJ];omega)
theorem qyr (L:List (List UInt8)):(strs L).flag=true:=rfl
theorem qzv (L:List (List UInt8)):(strs L).strip=strs L:=rfl
theorem u45 (s:List UInt8) (c:UInt8) (h:List AObj) (hs:s.length≤1000000000):ACalls Tryz.prog 44 [.str s,.str [c]] h (strs (kh c s)) h:=by
 have c78:=fun h=>u78 s c h hs
 refine acO qAK ?_
 simp (disch:=omega) only [qBT,qyr,qzv,go_sem]
 repeat' first
  |((first|refine cA (c78 _) ?_ ?_|refine cG (fun e=>c78 _) ?_ ?_|refine cU (fun _=>c78 _) ?_ ?_);exact flk;simp (disch:=omega) only [qyr,qzv,go_sem])
  |((first|apply qd|apply qb);exact rvk;simp only [go_sem];first|exact ql|apply qe|apply qa|apply qf|skip)
  |with_reducible first|intro _|apply aiA
 all_goals try exact clz
end HY
end
section
open Go Go.Proofs AF HY LN
namespace HY
def spl (cur:List UInt8):List UInt8→List (List UInt8)
 | []=> [cur]
 |c::r=>if c=32 then cur::spl [] r else spl (cur++ [c]) r
theorem qii (s:List UInt8): ∀i,kT 32 s (i+1)=kT 32 (s.drop (qac 32 s+1)) i:=by
 intro i
 induction i with
 |zero=>rfl
 |succ i ih=>
  show (kT 32 s (i+1)).drop (qac 32 (kT 32 s (i+1))+1)=_
  rw [ih]
  rfl
theorem qf9 {s:List UInt8} (h:0<s.count 32):kh 32 s=s.take (qac 32 s)::kh 32 (s.drop (qac 32 s+1)):=by
 have hc:=qev 32 s h
 unfold kh
 rw [hc,List.range_succ_eq_map,List.map_cons,List.map_map]
 have e0:ki 32 s 0=s.take (qac 32 s):=by unfold ki;rw [if_pos h];rfl
 rw [e0,show s.count 32-1+1=s.count 32 by omega]
 congr 1
 refine List.map_congr_left (fun i _=> ?_)
 show ki 32 s (i+1)=_
 unfold ki
 rw [qii,hc]
 by_cases hi:i+1<s.count 32
 ·rw [if_pos hi,if_pos (by omega)]
 ·rw [if_neg hi,if_neg (by omega)]
theorem qga {s:List UInt8} (h:s.count 32=0):kh 32 s= [s]:=by
 unfold kh
 rw [h]
 show [ki 32 s 0]= [s]
 unfold ki
 rw [if_neg (by omega)]
 rfl
theorem qp7: ∀(s cur:List UInt8),s.count 32=0→spl cur s= [cur++s]:=by
 intro s
 induction s with
 |nil=>intro cur _;simp [spl]
 |cons c r ih=>
  intro cur h
  unfold spl
  by_cases e:c=32
  ·subst e;simp at h
  ·rw [if_neg e]
   rw [List.count_cons,if_neg (by simpa using e)]at h
   rw [ih _ (by omega)]
   simp
theorem qp8: ∀(s cur:List UInt8),0<s.count 32→spl cur s=(cur++s.take (qac 32 s))::spl [] (s.drop (qac 32 s+1)):=by
 intro s
 induction s with
 |nil=>intro cur h;simp at h
 |cons c r ih=>
  intro cur h
  conv=>lhs;unfold spl
  rw [qav]
  by_cases e:c=32
  ·subst e;simp
  ·rw [if_neg e,if_neg e]
   rw [List.count_cons,if_neg (by simpa using e)]at h
   rw [ih _ (by omega)]
   simp
theorem qiC: ∀(n:Nat) (s:List UInt8),s.length≤n→spl [] s=kh 32 s:=by
 intro n
 induction n with
 |zero=>
  intro s h
  have:s= []:=List.eq_nil_of_length_eq_zero (by omega)
  subst this
  rfl
 |succ n ih=>
  intro s h
  by_cases hc:0<s.count 32
  ·rw [qp8 s [] hc,qf9 hc,ih _ (by rw [List.length_drop];omega)]
   rfl
  ·rw [qp7 s [] (by omega),qga (by omega)]
   rfl
end HY
namespace RC
theorem qum {x:Str} (hx:x≠ []): ∀(s cur:Str),x∈spl cur s↔x∈qpw cur s:=by
 intro s
 induction s with
 |nil=>
  intro cur
  unfold spl qpw
  split
  ·rename_i e;subst e;simp [hx]
  ·rfl
 |cons c r ih=>
  intro cur
  unfold spl qpw
  split
  ·rw [List.mem_cons,List.mem_append,ih]
   split
   ·rename_i e;subst e;simp [hx]
   ·rw [List.mem_singleton]
  ·exact ih _
theorem qfQ (x s:Str):qdK x s=(decide (x≠ [])&&decide (x∈kh 32 s)):=by
 unfold qdK
 by_cases hx:x= []
 ·subst hx
  rw [decide_eq_false (qy3 s [])]
  rfl
 ·rw [decide_eq_true hx,Bool.true_and]
  refine decide_eq_decide.2 ?_
  rw [←qiC s.length s (Nat.le_refl _),qum hx]
end RC
end
section
open Go Go.Proofs AF HY LN
namespace RC
theorem qnM (L:List Str) (x:Str):zd (fun j=>decide (x=L.getD j [])) L.length=decide (x∈L):=by
 by_cases h:x∈L
 ·rw [decide_eq_true h,qG]
  obtain ⟨j,hj,e⟩:=List.getElem_of_mem h
  exact ⟨j,hj,decide_eq_true (by rw [gdqA,zf hj];exact e.symm)⟩
 ·rw [decide_eq_false h,qo]
  intro j hj
  refine decide_eq_false fun e=>h ?_
  rw [e,gdqA,zf hj]
  exact List.getElem_mem hj
theorem ctS (L:List Str) (x:Str) (h:List AObj) (hn:L.length≤1000000000):ACalls Tryz.prog 43 [strs L,.str x] h (.bool (decide (x∈L))) h:=by
 rw [←qnM]
 exact qkF L.length (fun j=>L.getD j []) x h hn
theorem lyP (lay:List Str) (cls:Str) (h:List AObj) (hl:lay.length≤1000000000) (hs: ∀i,(lay.getD i []).length≤100000000):ACalls Tryz.prog 27 [strs lay,.str cls] h (.tup [.int .i64 (lyR lay cls),.int .i64 (lyE lay)]) h:=by
 obtain ⟨R,hR⟩: ∃R,R=lyR lay cls:=⟨_,rfl⟩
 obtain ⟨E,hE⟩: ∃E,E=lyE lay:=⟨_,rfl⟩
 rw [←hR,←hE]
 unfold lyR at hR
 rw [←hE]at hR
 unfold lyE at hE
 by_cases g1:lay.length=0
 ·have k1:((lay.length:Int)=0)=True:=eq_true (by omega)
  rw [if_pos g1]at hE
  rw [hR,hE]
  refine acO qtb ?_
  simp (disch:=omega) only [qz5,strs,k1,go_sem]
  repeat' first
   |((first|apply qd|apply qb);exact rvk;simp only [go_sem];first|exact ql|apply qe|apply qa|apply qf|skip)
   |with_reducible first|intro _|apply aiA
  all_goals try exact clz
 have k1:((lay.length:Int)=0)=False:=eq_false (by omega)
 rw [if_neg g1]at hE
 by_cases g2:16<lay.length
 ·have k2:((16:Int)<lay.length)=True:=eq_true (by omega)
  rw [if_pos g2]at hE
  rw [hR,hE]
  refine acO qtb ?_
  simp (disch:=omega) only [qz5,strs,k1,k2,go_sem]
  repeat' first
   |((first|apply qd|apply qb);exact rvk;simp only [go_sem];first|exact ql|apply qe|apply qa|apply qf|skip)
   |with_reducible first|intro _|apply aiA
  all_goals try exact clz
 have k2:((16:Int)<lay.length)=False:=eq_false (by omega)
 rw [if_neg g2]at hE
 rw [hE,if_pos rfl]at hR
 rw [hE]
 unfold lyN at hR
 refine acO qtb ?_
 simp (disch:=omega) only [qz5,strs,k1,k2,go_sem]
 repeat' first
  |((first|apply qd|apply qb);exact rvk;simp only [go_sem];first|exact ql|apply qe|apply qa|apply qf|skip)
  |with_reducible first|intro _|apply aiA
 all_goals try exact clz
 refine qu (T:=fun i:Nat=>qT 37 [(0,strs lay),(1,.str cls),(17,strs lay),(18,.int .i64 lay.length),(19,.int .i64 i)]) (H:=fun _=>h) (inv:=fun i=>i≤lay.length∧ ∀j,j<i→qdK cls (lay.getD j [])=false) (m:=fun i=>lay.length-i) 0 ⟨Nat.zero_le _,fun j hj=>absurd hj (Nat.not_lt_zero j)⟩ (Wk.temps ?_) ?_
 ·(simp only [strs,go_sem,qk,qh,qg,qj];try (repeat' first|(with_reducible apply aiA)|(apply qe;omega)|(apply qa;rfl)|exact ql))
 rintro i ⟨i1,i2⟩ K hK
 by_cases hi:i<lay.length
 ·have k3:((i:Int)<lay.length)=True:=eq_true (by omega)
  have hH:=fun h=>kR (p:=fun i=>qdK cls (lay.getD i [])) hi i2 h
  have hS:qdK cls (lay.getD i [])=false→ ∀j,j<i+1→qdK cls (lay.getD j [])=false:=fun hx j hj=>by
   by_cases e:j=i
   ·subst e;exact hx
   ·exact i2 j (by omega)
  have hsp:=qfQ cls (lay.getD i [])
  have hsi:=hs i
  obtain ⟨s,hsx⟩: ∃s,s=lay.getD i []:=⟨_,rfl⟩
  have es:=hsx.symm
  rw [es]at hsp hS hsi
  simp only [es]at hH
  have c1:=fun h=>u45 s 32 h (by omega)
  have hcl:=List.count_le_length (a:=(32:UInt8)) (l:=s)
  have hll:=qbJ 32 s
  obtain ⟨P,hP⟩: ∃P,P=kh 32 s:=⟨_,rfl⟩
  rw [←hP]at hsp hll
  simp only [←hP]at c1
  have c2:=fun h=>ctS P cls h (by omega)
  unfold strs at c1 c2
  obtain ⟨b,hb⟩: ∃b,b=decide (cls∈P):=⟨_,rfl⟩
  rw [←hb]at hsp
  simp only [←hb]at c2
  by_cases g3:cls= []
  ·have q1:(cls= [])=True:=eq_true g3
   rw [decide_eq_false (fun h=>h g3),Bool.false_and]at hsp
   cases b
   all_goals
    simp (disch:=omega) only [strs,k3,es,q1,go_sem]
    repeat' first
     |((first|refine cA (c1 _) ?_ ?_|refine cG (fun e=>c1 _) ?_ ?_|refine cA (c2 _) ?_ ?_|refine cG (fun e=>c2 _) ?_ ?_|refine cU (fun _=>c1 _) ?_ ?_|refine cU (fun _=>c2 _) ?_ ?_);exact flk;simp (disch:=omega) only [strs,k3,es,q1,go_sem])
     |((first|apply qd|apply qb);exact rvk;simp only [go_sem];first|exact ql|apply qe|apply qa|apply qf|skip)
     |with_reducible first|intro _|apply aiA
    all_goals try exact clz
    refine hK _ _ (i+1) ⟨hi,hS hsp⟩ (by omega) (Wk.temps ?_)
    (simp only [strs,go_sem,qk,qh,qg,qj];try (repeat' first|(with_reducible apply aiA)|(apply qe;omega)|(apply qa;rfl)|exact ql))
  have q1:(cls= [])=False:=eq_false g3
  rw [decide_eq_true (show cls≠ []from g3),Bool.true_and]at hsp
  cases b with
  |false=>
   simp (disch:=omega) only [strs,k3,es,q1,go_sem]
   repeat' first
    |((first|refine cA (c1 _) ?_ ?_|refine cG (fun e=>c1 _) ?_ ?_|refine cA (c2 _) ?_ ?_|refine cG (fun e=>c2 _) ?_ ?_|refine cU (fun _=>c1 _) ?_ ?_|refine cU (fun _=>c2 _) ?_ ?_);exact flk;simp (disch:=omega) only [strs,k3,es,q1,go_sem])
    |((first|apply qd|apply qb);exact rvk;simp only [go_sem];first|exact ql|apply qe|apply qa|apply qf|skip)
    |with_reducible first|intro _|apply aiA
   all_goals try exact clz
   refine hK _ _ (i+1) ⟨hi,hS hsp⟩ (by omega) (Wk.temps ?_)
   (simp only [strs,go_sem,qk,qh,qg,qj];try (repeat' first|(with_reducible apply aiA)|(apply qe;omega)|(apply qa;rfl)|exact ql))
  |true=>
   have e1:=hH hsp
   rw [e1,if_neg (by omega)]at hR
   rw [hR]
   simp (disch:=omega) only [strs,k3,es,q1,go_sem]
   repeat' first
    |((first|refine cA (c1 _) ?_ ?_|refine cG (fun e=>c1 _) ?_ ?_|refine cA (c2 _) ?_ ?_|refine cG (fun e=>c2 _) ?_ ?_|refine cU (fun _=>c1 _) ?_ ?_|refine cU (fun _=>c2 _) ?_ ?_);exact flk;simp (disch:=omega) only [strs,k3,es,q1,go_sem])
    |((first|apply qd|apply qb);exact rvk;simp only [go_sem];first|exact ql|apply qe|apply qa|apply qf|skip)
    |with_reducible first|intro _|apply aiA
   all_goals try exact clz
 ·have k3:((i:Int)<lay.length)=False:=eq_false (by omega)
  have e1:qad (fun i=>qdK cls (lay.getD i [])) lay.length 0= -1:=qan fun j hj=>i2 j (by omega)
  rw [e1,if_pos (by decide)]at hR
  rw [hR]
  simp (disch:=omega) only [strs,k3,go_sem]
  repeat' first
   |((first|apply qd|apply qb);exact rvk;simp only [go_sem];first|exact ql|apply qe|apply qa|apply qf|skip)
   |with_reducible first|intro _|apply aiA
  all_goals try exact clz
theorem sp1 (w:Wd) (u:Int) (h:List AObj):ACalls Tryz.prog 105 [.agg (wdC w),.ip [.int .i64 u]] h (.bool (decide (w.unit=u))) h:=by
 refine acO qxg ?_
 simp (disch:=omega) only [qvJ,wdC,go_sem]
 repeat' first
  |((first|apply qd|apply qb);exact rvk;simp only [go_sem];first|exact ql|apply qe|apply qa|apply qf|skip)
  |with_reducible first|intro _|apply aiA
 all_goals try exact clz
theorem qCj (w:Wd) (u:Int) (k v:Nat) (h:List AObj) (hk:getO k h=some (.mem v 3 [.int .i64 u])):ACalls Tryz.prog 105 [.agg (wdC w),.op k v 0] h (.bool (decide (w.unit=u))) h:=by
 have hc:=qX hk
 refine ACalls.borrow ?_ rfl
 have e:([AV.agg (wdC w),AV.op k v 0]).map (rei (fun _=>true) h 8)= [.agg (wdC w),.ip [.int .i64 u]]:=by
  simp only [List.map_cons,List.map_nil,rei_op,if_true,hc,ipOf_some,List.drop_zero,rei_agg]
  rfl
 rw [e]
 exact sp1 _ u _
theorem qCc (n:Nat) (g:Nat→Wd) (u:Int) (k v:Nat) (h:List AObj) (hk:getO k h=some (.mem v 3 [.int .i64 u])) (hn:n≤1000000000):
  ACalls Tryz.prog 106 [.sl n (fun j=>wdC (g j)),.fn (.func 105) [] [.op k v 0]] h (.int .i64 (qad (fun j=>decide ((g j).unit=u)) n 0)) h:=by
 refine qaD qgK n (fun j=>wdC (g j)) (fun j=> .agg (wdC (g j))) _ [] [.op k v 0] _ h (fun i _=>⟨rfl,by simp [zZ,wdC],rfl,rfl,rfl⟩) (fun i _=> ?_) (by omega)
 rw [List.nil_append]
 exact qCj _ u k v h hk
theorem qCE (n:Nat) (g:Nat→Wd) (u:Int) (k v:Nat) (h:List AObj) (hk:getO k h=some (.mem v 3 [.int .i64 u])) (hn:n≤1000000000):
  ACalls Tryz.prog 92 [.sl n (fun j=>wdC (g j)),.fn (.func 105) [] [.op k v 0]] h (.bool (zd (fun j=>decide ((g j).unit=u)) n)) h:=
 qhK qoO ⟨rfl,rfl⟩ ⟨rfl,rfl⟩ (qCc n g u k v h hk hn)
theorem qj1 {q:Nat→Bool} {n f t:Nat} (hf:f≤t) (ht:t≤n) (h1: ∀j,f≤j→j<t→q j=true) (h2:t<n→q t=false):qfw q n f=t:=by
 obtain ⟨b1,b2,b3,b4⟩:=qj2 q (n:=n) (f:=f) (by omega)
 rcases Nat.lt_trichotomy (qfw q n f) t with h|h|h
 ·have:=b4 (by omega)
  rw [h1 _ b1 h]at this
  cases this
 ·exact h
 ·have:=b3 t hf h
  rw [h2 (by omega)]at this
  cases this
theorem qrR {q:Nat→Bool} {n f t:Nat} (ht:qfw q n f=t) (htn:t≤n):qvm q n f=zd (fun j=>q (t+j)) (n-t):=by
 unfold qvm
 rw [ht]
 cases e:zd (fun j=>q (t+j)) (n-t)with
 |true=>
  obtain ⟨j,hj,hq⟩:=qG.1 e
  exact qG.2 ⟨t+j,by omega,by rw [hq,decide_eq_true (by omega)];rfl⟩
 |false=>
  refine qo.2 fun i hi=> ?_
  by_cases g:t≤i
  ·have:=qo.1 e (i-t) (by omega)
   rw [show t+(i-t)=i by omega]at this
   rw [this,Bool.and_false]
  ·rw [decide_eq_false g,Bool.false_and]
theorem qDm (b:List Wd) (u:Int) (h:List AObj) (hn:b.length≤1000000000):ACalls Tryz.prog 31 [qM b,.int .i64 u] h (.tup [.int .i64 (qzs (inU b u) b.length),.int .i64 (qzt (inU b u) b.length),.int .i64 (qmM (inU b u) b.length)]) h:=by
 have c1:=qCc b.length (fun j=>b.getD j default) u h.length 1 (h++ [.mem 1 3 [.int .i64 u]]) (by rw [getO_app0];rfl) hn
 have ei:qad (fun j=>decide ((b.getD j default).unit=u)) b.length 0=qad (inU b u) b.length 0:=rfl
 rw [ei]at c1
 unfold qzs qzt
 unfold qmM
 rcases zI (inU b u) b.length with ⟨f,f1,f2,_,f4⟩|⟨f1,f2⟩
 case inr=>
  rw [f2]at c1 ⊢
  simp only [show ((-1:Int)<0)=True from eq_true (by decide),if_true,show ((6:Int)=0)=False from eq_false (by decide),if_false]
  refine acO qyk ?_
  simp (disch:=omega) only [qAk,qM,go_sem]
  repeat' first
   |((first|refine cA (c1) ?_ ?_|refine cG (fun e=>c1) ?_ ?_);exact flk;simp (disch:=omega) only [qM,go_sem])
   |((first|apply qd|apply qb);exact rvk;simp only [go_sem];first|exact ql|apply qe|apply qa|apply qf|skip)
   |with_reducible first|intro _|apply aiA
  all_goals try exact clz
 rw [f4]at c1 ⊢
 have k1:((f:Int)<0)=False:=eq_false (by omega)
 simp only [k1,if_false,Int.toNat_natCast]
 refine acO qyk ?_
 simp (disch:=omega) only [qAk,qM,k1,go_sem]
 repeat' first
  |((first|refine cA (c1) ?_ ?_|refine cG (fun e=>c1) ?_ ?_);exact flk;simp (disch:=omega) only [qM,k1,go_sem])
  |((first|apply qd|apply qb);exact rvk;simp only [go_sem];first|exact ql|apply qe|apply qa|apply qf|skip)
  |with_reducible first|intro _|apply aiA
 all_goals try exact clz
 refine qu (T:=fun t:Nat=>qT 38 [(0,qM b),(7,.fn (.func 105) [] [.op h.length 1 0]),(8,.int .i64 f),(9,.int .i64 t)]) (H:=fun _=>h++ [.mem 1 3 [.int .i64 u]]) (inv:=fun t=>f≤t∧t≤b.length∧ ∀j,f≤j→j<t→inU b u j=true) (m:=fun t=>b.length-t) f ⟨Nat.le_refl _,by omega,fun j h1 h2=>by omega⟩ (Wk.temps ?_) ?_
 ·(simp only [qM,go_sem,qk,qh,qg,qj];try (repeat' first|(with_reducible apply aiA)|(apply qe;omega)|(apply qa;rfl)|exact ql))
 rintro t ⟨t1,t2,t3⟩ K hK
 have hex:(t<b.length→inU b u t=false)→qfw (inU b u) b.length f=t:=fun hx=>qj1 t1 t2 t3 hx
 have kt:((t:Int)≤b.length)=True:=eq_true (by omega)
 have c3:=qCE (b.length-t) (fun j=>b.getD (t+j) default) u h.length 1 (h++ [.mem 1 3 [.int .i64 u]]) (by rw [getO_app0];rfl) (by omega)
 have eb:zd (fun j=>decide ((b.getD (t+j) default).unit=u)) (b.length-t)=zd (fun j=>inU b u (t+j)) (b.length-t):=rfl
 rw [eb]at c3
 have hbe:(t<b.length→inU b u t=false)→qvm (inU b u) b.length f=zd (fun j=>inU b u (t+j)) (b.length-t):=fun hx=>qrR (hex hx) t2
 obtain ⟨B,hB⟩: ∃B,B=zd (fun j=>inU b u (t+j)) (b.length-t):=⟨_,rfl⟩
 rw [←hB]at c3 hbe
 have c2:=qCj (b.getD t default) u h.length 1 (h++ [.mem 1 3 [.int .i64 u]]) (by rw [getO_app0];rfl)
 have ed:decide ((b.getD t default).unit=u)=inU b u t:=rfl
 rw [ed]at c2
 by_cases ht:t<b.length
 ·have k2:((t:Int)<b.length)=True:=eq_true (by omega)
  obtain ⟨w,hw⟩: ∃w,w=b.getD t default:=⟨_,rfl⟩
  have ew:=hw.symm
  rw [ew]at c2
  unfold wdC at c2
  cases g:inU b u t with
  |true=>
   rw [g]at c2
   simp (disch:=omega) only [qM,wdC,k2,ew,go_sem]
   repeat' first
    |(refine qz (c2) ?_;simp (disch:=omega) only [qM,wdC,k2,ew,go_sem])
    |((first|apply qd|apply qb);exact rvk;simp only [go_sem];first|exact ql|apply qe|apply qa|apply qf|skip)
    |with_reducible first|intro _|apply aiA
   all_goals try exact clz
   refine hK _ _ (t+1) ⟨by omega,ht,fun j h1 h2=> ?_⟩ (by omega) (Wk.temps ?_)
   ·by_cases e:j=t
    ·subst e;exact g
    ·exact t3 j h1 (by omega)
   ·(simp only [qM,go_sem,qk,qh,qg,qj];try (repeat' first|(with_reducible apply aiA)|(apply qe;omega)|(apply qa;rfl)|exact ql))
  |false=>
   rw [g]at c2
   have e1:=hex fun _=>g
   have e2:=hbe fun _=>g
   simp only [e1,e2]
   unfold wdC at c3
   cases B with
   |true=>
    simp only [if_true,show ((10:Int)=0)=False from eq_false (by decide),if_false]
    simp (disch:=omega) only [qM,wdC,k2,ew,k1,kt,go_sem]
    repeat' first
     |(refine qz (c2) ?_;simp (disch:=omega) only [qM,wdC,k1,k2,kt,ew,go_sem])
     |((first|refine cA (c3) ?_ ?_|refine cG (fun e=>c3) ?_ ?_);exact flk;simp (disch:=omega) only [qM,wdC,k1,k2,kt,ew,go_sem])
     |((first|apply qd|apply qb);exact rvk;simp only [go_sem];first|exact ql|apply qe|apply qa|apply qf|skip)
     |with_reducible first|intro _|apply aiA
    all_goals try exact clz
   |false=>
    simp only [Bool.false_eq_true,if_false,if_true]
    simp (disch:=omega) only [qM,wdC,k2,ew,k1,kt,go_sem]
    repeat' first
     |(refine qz (c2) ?_;simp (disch:=omega) only [qM,wdC,k1,k2,kt,ew,go_sem])
     |((first|refine cA (c3) ?_ ?_|refine cG (fun e=>c3) ?_ ?_);exact flk;simp (disch:=omega) only [qM,wdC,k1,k2,kt,ew,go_sem])
     |((first|apply qd|apply qb);exact rvk;simp only [go_sem];first|exact ql|apply qe|apply qa|apply qf|skip)
     |with_reducible first|intro _|apply aiA
    all_goals try exact clz
 ·have k2:((t:Int)<b.length)=False:=eq_false (by omega)
  have e1:=hex fun hx=>absurd hx ht
  have e2:=hbe fun hx=>absurd hx ht
  simp only [e1,e2]
  unfold wdC at c3
  cases B with
  |true=>
   simp only [if_true,show ((10:Int)=0)=False from eq_false (by decide),if_false]
   simp (disch:=omega) only [qM,wdC,k2,k1,kt,go_sem]
   repeat' first
    |((first|refine cA (c3) ?_ ?_|refine cG (fun e=>c3) ?_ ?_);exact flk;simp (disch:=omega) only [qM,wdC,k1,k2,kt,go_sem])
    |((first|apply qd|apply qb);exact rvk;simp only [go_sem];first|exact ql|apply qe|apply qa|apply qf|skip)
    |with_reducible first|intro _|apply aiA
   all_goals try exact clz
  |false=>
   simp only [Bool.false_eq_true,if_false,if_true]
   simp (disch:=omega) only [qM,wdC,k2,k1,kt,go_sem]
   repeat' first
    |((first|refine cA (c3) ?_ ?_|refine cG (fun e=>c3) ?_ ?_);exact flk;simp (disch:=omega) only [qM,wdC,k1,k2,kt,go_sem])
    |((first|apply qd|apply qb);exact rvk;simp only [go_sem];first|exact ql|apply qe|apply qa|apply qf|skip)
    |with_reducible first|intro _|apply aiA
   all_goals try exact clz
def spF (b:List Wd) (k:Int) (c:Int):Int:=if qmM (inU b k) b.length=0 then qzs (inU b k) b.length else (cP (bfU b c) b.length:Int)
def spT (b:List Wd) (k:Int) (c:Int):Int:=if qmM (inU b k) b.length=0 then qzt (inU b k) b.length else (cP (bfU b c) b.length:Int)
theorem qBr (b:List Wd) (k:Int) (u:Un) (h:List AObj) (hn:b.length≤1000000000):ACalls Tryz.prog 160 [qM b,.int .i64 k,.agg (unC u)] h (.tup [.int .i64 (spF b k u.frm),.int .i64 (spT b k u.frm)]) h:=by
 have c1:=fun h=>qDm b k h hn
 unfold spF spT
 obtain ⟨F,hF⟩: ∃F,F=qzs (inU b k) b.length:=⟨_,rfl⟩
 obtain ⟨T,hT⟩: ∃T,T=qzt (inU b k) b.length:=⟨_,rfl⟩
 obtain ⟨E,hE⟩: ∃E,E=qmM (inU b k) b.length:=⟨_,rfl⟩
 simp only [←hF,←hT,←hE]at c1 ⊢
 by_cases g:E=0
 ·have k1:(E=0)=True:=eq_true g
  simp only [k1,if_true]
  unfold qM at c1
  refine acO qqW ?_
  simp (disch:=omega) only [qr2,qM,unC,k1,go_sem]
  repeat' first
   |((first|refine cA (c1 _) ?_ ?_|refine cG (fun e=>c1 _) ?_ ?_|refine cU (fun _=>c1 _) ?_ ?_);exact flk;simp (disch:=omega) only [qM,unC,k1,go_sem])
   |((first|apply qd|apply qb);exact rvk;simp only [go_sem];first|exact ql|apply qe|apply qa|apply qf|skip)
   |with_reducible first|intro _|apply aiA
  all_goals try exact clz
 have k1:(E=0)=False:=eq_false g
 simp only [k1,if_false]
 unfold qM at c1
 refine acO qqW ?_
 simp (disch:=omega) only [qr2,qM,unC,k1,go_sem]
 repeat' first
  |((first|refine cA (c1 _) ?_ ?_|refine cG (fun e=>c1 _) ?_ ?_|refine cU (fun _=>c1 _) ?_ ?_);exact flk;simp (disch:=omega) only [qM,unC,k1,go_sem])
  |((first|apply qd|apply qb);exact rvk;simp only [go_sem];first|exact ql|apply qe|apply qa|apply qf|skip)
  |with_reducible first|intro _|apply aiA
 all_goals try exact clz
 have hle:=qn3 (bfU b u.frm)
 have hst: ∀n,cP (bfU b u.frm) (n+1)=cP (bfU b u.frm) n+if bfU b u.frm n=true then 1 else 0:=fun _=>rfl
 refine qu (T:=fun i:Nat×AObj=>qT 41 [(5,.op h.length 1 0),(11,.int .i64 (cP (bfU b u.frm) i.1:Int)),(25,qM b),(26,.int .i64 b.length),(27,.int .i64 i.1)]) (H:=fun i=>h++ [.mem 1 83 (unC u),i.2]) (inv:=fun i=>i.1≤b.length∧qP [i.2] 0=true) (m:=fun i=>b.length-i.1) (0,.emp 0) ⟨Nat.zero_le _,rfl⟩ (Wk.temps ?_) ?_
 ·(simp only [qM,cP,go_sem,qk,qh,qg,qj];try (repeat' first|(with_reducible apply aiA)|(apply qe;omega)|(apply qa;rfl)|exact ql))
 rintro ⟨i,O⟩ ⟨i1,i2⟩ K hK
 simp only at i1 i2 hK
 have i2': ∀m,qP (O::m) 0=true:=fun _=>i2
 have hle:=hle i
 have hst:=hst i
 have hb:bfU b u.frm i=decide ((b.getD i default).col<u.frm):=rfl
 obtain ⟨c,hc⟩: ∃c,c=cP (bfU b u.frm) i:=⟨_,rfl⟩
 have ec:=hc.symm
 rw [ec]at hle hst
 by_cases hi:i<b.length
 ·have k2:((i:Int)<b.length)=True:=eq_true (by omega)
  obtain ⟨w,hw⟩: ∃w,w=b.getD i default:=⟨_,rfl⟩
  have ew:=hw.symm
  rw [ew]at hb
  by_cases g2:w.col<u.frm
  ·have k3:(w.col<u.frm)=True:=eq_true g2
   rw [hb,decide_eq_true g2,if_pos rfl]at hst
   simp (disch:=omega) only [qM,wdC,unC,k2,ec,ew,i2',k3,go_sem]
   repeat' first
    |((first|apply qd|apply qb);exact rvk;simp only [go_sem];first|exact ql|apply qe|apply qa|apply qf|skip)
    |with_reducible first|intro _|apply aiA
   all_goals try exact clz
   refine hK _ _ (i+1,.mem (qx (some O)+1) 64 (wdC w)) ⟨hi,rfl⟩ (by simp only;omega) ?_
   simp only [hst]
   refine Wk.temps ?_
   (simp only [qM,go_sem,qk,qh,qg,qj];try (repeat' first|(with_reducible apply aiA)|(apply qe;omega)|(apply qa;rfl)|exact ql))
  ·have k3:(w.col<u.frm)=False:=eq_false g2
   rw [hb,decide_eq_false g2,if_neg (by simp),Nat.add_zero]at hst
   simp (disch:=omega) only [qM,wdC,unC,k2,ec,ew,i2',k3,go_sem]
   repeat' first
    |((first|apply qd|apply qb);exact rvk;simp only [go_sem];first|exact ql|apply qe|apply qa|apply qf|skip)
    |with_reducible first|intro _|apply aiA
   all_goals try exact clz
   refine hK _ _ (i+1,.mem (qx (some O)+1) 64 (wdC w)) ⟨hi,rfl⟩ (by simp only;omega) ?_
   simp only [hst]
   refine Wk.temps ?_
   (simp only [qM,go_sem,qk,qh,qg,qj];try (repeat' first|(with_reducible apply aiA)|(apply qe;omega)|(apply qa;rfl)|exact ql))
 ·have k2:((i:Int)<b.length)=False:=eq_false (by omega)
  obtain rfl:i=b.length:=by omega
  rw [ec]
  simp (disch:=omega) only [qM,k2,ec,go_sem]
  repeat' first
   |((first|apply qd|apply qb);exact rvk;simp only [go_sem];first|exact ql|apply qe|apply qa|apply qf|skip)
   |with_reducible first|intro _|apply aiA
  all_goals try exact clz
end RC
end
section
open Go Go.Proofs AF
def qtn:List Nat:= []
def qsh:C:=
 ((C.ops [O1 7 (.box 0 26) 0,O1 11 (.box 1 44) 4,⟨some 14,none,.alloc 2 49 [.nl],[]⟩,⟨some 15,none,.alloc 3 35 [i6 0],[]⟩]).seq (((C.ops [O1 37 (.load (some 4)) 7,MV 38 1,
 MV 39 3,ON 40 (.call 38 true) [.t 37,.t 38,.t 39],MV 16 40]).seq ((C.ops [MV 41 16,BC 42 .neq 41 (i6 0)]).seq (C.cond (.t 42) ((C.ops [MV 43 16,⟨none,none,.store 1,[.t 14,
 .c .nl]⟩,ST 1 15 43]).seq C.ret) C.skip))).seq (((C.ops [O1 44 (.fldA 1) 7,LD 45 44,LD 46 11,O2 47 (.call 122 true) 45 46,BC 48 .neq 47 (i6 0)]).seq (C.cond (.t 48) ((C.ops
 [⟨none,none,.store 1,[.t 14,.c .nl]⟩,⟨none,none,.store 1,[.t 15,.c (i6 1)]⟩]).seq C.ret) C.skip)).seq (((C.ops [MV 50 5,OC 51 (.call 27 true) 50 (.str []),MV 49 51,O1
 52 (.ext 0) 49,O1 53 (.ext 1) 49,MV 17 52,MV 18 53]).seq ((C.ops [MV 54 18,BC 55 .neq 54 (i6 0)]).seq (C.cond (.t 55) ((C.ops [MV 56 18,⟨none,none,.store 1,[.t 14,.c
 .nl]⟩,ST 1 15 56]).seq C.ret) C.skip))).seq (((C.ops [MV 57 6,O1 58 .len 57,MV 59 5,O1 60 .len 59,BI 61 .neq 58 60,MV 62 61,MG 63 62 false 2,P1 64 62 false .len 63,MG 65
 62 false 1,P1 66 62 false .len 65,P2 67 62 false (.bin .neq) 64 66,PT 68 62 67]).seq (C.cond (.t 68) ((C.ops [⟨none,none,.store 1,[.t 14,.c .nl]⟩,⟨none,none,.store 1,[.t
 15,.c (i6 9)]⟩]).seq C.ret) C.skip)).seq (((C.ops [MV 69 1,O1 70 .len 69,MC 71 (i6 0)]).seq (C.block 0 ((C.ops [BI 72 .lss 71 70]).seq ((C.cond (.t 72) C.skip (C.exit 0)).seq
 ((C.block 1 ((C.ops [MV 73 71,O2 74 (.idxA 3) 69 71,O1 75 (.load (some 3)) 74,⟨some 20,none,.alloc 4 83 [i6 0,i6 0,.nl],[]⟩,MV 19 73,ST 3 20 75]).seq ((C.ops [MV 76 2,MV
 77 19,O2 78 (.idxA 1) 76 77,LD 79 78,O1 80 .len 79,O1 81 (.fldA 2) 20,LD 82 81,O1 83 .len 82,BI 84 .neq 80 83]).seq (C.cond (.t 84) ((C.ops [⟨none,none,.store 1,[.t 14,
 .c .nl]⟩,⟨none,none,.store 1,[.t 15,.c (i6 9)]⟩]).seq C.ret) C.skip)))).seq (C.ops [BC 85 .add 71 (i6 1),MV 71 85])))).loop)).seq ((C.ops [ON 21 (.nilo 5 6 58) []]).seq
 (((C.ops [MV 86 1,O1 87 .len 86,MC 88 (i6 0)]).seq (C.block 2 ((C.ops [BI 89 .lss 88 87]).seq ((C.cond (.t 89) C.skip (C.exit 2)).seq ((C.block 3 ((C.ops [MV 90 88,O2 91 (.idxA
 3) 86 88,O1 92 (.load (some 3)) 91,⟨some 23,none,.alloc 6 83 [i6 0,i6 0,.nl],[]⟩,MV 22 90,ST 3 23 92]).seq ((C.ops [MV 94 3,MV 95 22,O1 96 (.load (some 3)) 23,ON 97
 (.call 160 true) [.t 94,.t 95,.t 96],MV 93 97,O1 98 (.ext 0) 93,O1 99 (.ext 1) 93,MV 24 98,MV 25 99]).seq ((C.ops [⟨some 26,none,.alloc 7 22 [.nl],[]⟩]).seq (((C.ops [MV
 100 3,MV 101 24,MV 102 25,ON 103 (.slc 7 true true) [.t 100,.t 101,.t 102],O1 104 .len 103,MC 105 (i6 0)]).seq (C.block 4 ((C.ops [BI 106 .lss 105 104]).seq ((C.cond (.t
 106) C.skip (C.exit 4)).seq ((C.block 5 ((C.ops [O2 107 (.idxA 7) 103 105,O1 108 (.load (some 7)) 107,⟨some 28,none,.alloc 8 64 [.str [],i6 0,i6 0,i6 0,.bool false,.bool
 false,.str []],[]⟩,ST 7 28 108]).seq (C.ops [LD 109 26,O1 110 (.fldA 0) 28,LD 111 110,⟨some 112,none,.bslc 9 1 1 9 [.str []] [(0,1)],[.t 111]⟩,O2 113 (.app 10 1 9 16)
 109 112,ST 1 26 113]))).seq (C.ops [BC 114 .add 105 (i6 1),MV 105 114])))).loop)).seq ((C.ops [MV 115 5,O1 116 .len 115,MC 117 (i6 0)]).seq (C.block 6 ((C.ops [BI 118 .lss 117
 116]).seq ((C.cond (.t 118) C.skip (C.exit 6)).seq ((C.block 7 ((C.ops [MV 119 117,MV 29 119]).seq ((C.ops [MV 120 29,MV 121 24,MV 122 25,MV 123 6,MV 124 29,O2 125 (.idxA 1)
 123 124,LD 126 125,⟨some 127,none,.build [i6 0,i6 0,i6 0,.bool false,.nl,.nl] [(0,1),(1,1),(2,1),(3,1)],[.t 120,.t 121,.t 122,.t 126]⟩,⟨some 30,none,.alloc
 11 58 [i6 0,i6 0,i6 0,.bool false,.nl,.nl],[]⟩,ST 6 30 127]).seq (((C.wk.seq (C.ops [O1 128 (.load (some 3)) 23,MV 129 2,MV 130 22,O2 131 (.idxA 1) 129 130,LD 132 131,
 LD 133 26,MV 134 5,MV 135 29,ON 136 (.call 161 true) [.t 128,.t 132,.t 133,.t 134,.t 135]])).seq (C.block 8 (C.range (.t 136) [137] (C.ops [⟨some 31,none,.alloc 12 89
 [.nl,.nl],[]⟩,ST 2 31 137]) (C.block 9 ((C.ops [O1 139 (.fldA 1) 7,LD 140 139,LD 141 11,O1 142 (.fldA 1) 31,LD 143 142,ON 144 (.call 142 true) [.t 140,.t 141,.t 143],MV
 138 144,O1 145 (.ext 0) 138,O1 146 (.ext 1) 138,MV 32 145,MV 33 146]).seq (((C.ops [MV 147 33,BC 148 .neq 147 (.int .i64 (Int.ofNat 0))]).seq (C.cond (.t 148) ((C.ops [MV 149
 33,⟨none,none,.store 1,[.t 14,.c .nl]⟩,ST 1 15 149]).seq C.ret) C.skip)).seq (C.ops [O1 150 (.fldA 5) 30,LD 151 150,O1 152 (.fldA 0) 31,LD 153 152,MV 154 32,⟨some 155,
 none,.build [.nl,.nl] [(0,1),(1,1)],[.t 153,.t 154]⟩,⟨some 156,none,.bslc 13 2 1 85 [.nl,.nl] [(0,2)],[.t 155]⟩,O2 157 (.app 14 2 85 48) 151 156,O1 158 (.fldA 5) 30,
 ST 1 158 157]))))))).seq (((C.wk.seq (C.ops [O1 159 (.fldA 5) 30,LD 160 159,O1 161 .len 160,BC 162 .eql 161 (i6 0)])).seq (C.cond (.t 162) (C.exit 7) C.skip)).seq ((C.ops [O1
 163 (.fldA 2) 23,LD 164 163,O1 165 (.mkfn (Fn.func 162) 0) 26,O2 166 (.call 127 true) 164 165,MV 34 166]).seq (((C.ops [MV 167 6,MV 168 29,O2 169 (.idxA 1) 167 168,LD 170
 169,MV 171 170,MG 172 171 true 34,PC 173 171 true (.bin .geq) 172 (i6 0),PF 174 171 173]).seq (C.cond (.t 174) ((C.ops [O1 176 (.fldA 1) 7,LD 177 176,LD 178 11,O1 179 (.fldA
 2) 23,LD 180 179,MV 181 34,O2 182 (.idxA 2) 180 181,O1 183 (.fldA 1) 182,LD 184 183,ON 185 (.call 142 true) [.t 177,.t 178,.t 184],MV 175 185,O1 186 (.ext 0) 175,O1 187
 (.ext 1) 175,MV 35 186,MV 36 187]).seq (((C.ops [MV 188 36,BC 189 .neq 188 (.int .i64 (Int.ofNat 0))]).seq (C.cond (.t 189) ((C.ops [MV 190 36,⟨none,none,.store 1,[.t 14,.c
 .nl]⟩,ST 1 15 190]).seq C.ret) C.skip)).seq (C.ops [MV 191 35,O1 192 (.fldA 4) 30,ST 1 192 191]))) C.skip)).seq (C.ops [MV 193 21,O1 194 (.load (some 6)) 30,⟨some 195,none,
 .bslc 15 6 1 58 [i6 0,i6 0,i6 0,.bool false,.nl,.nl] [(0,6)],[.t 194]⟩,O2 196 (.app 16 6 58 80) 193 195,MV 21 196])))))))).seq (C.ops [BC 197 .add 117 (i6 1),MV 117
 197])))).loop))))))).seq (C.ops [BC 198 .add 88 (i6 1),MV 88 198])))).loop)).seq ((C.ops [MV 199 21,ST 1 14 199,⟨none,none,.store 1,[.t 15,.c (i6 0)]⟩]).seq
 C.ret)))))))))
theorem qh1:qK Tryz.prog 96 200 17 [RV.cell 14 none,RV.cell 15 none] qsh:=fi Tryz.f96 [7,11,14,15,20,21,23,26,28,112,113,30,31,156,157,195,196] qtn [32,38]
end
section
open Go Go.Proofs AF HY LN
namespace RC
def flG {α:Type} (p:Nat→Bool) (g:Nat→α):Nat→List α
 |0=> []
 |i+1=>flG p g i++if p i=true then [g i] else []
theorem qxd {α:Type} {p:Nat→Bool} {g:Nat→α} {i:Nat} (hp:p i=true): ∀ {n:Nat},i<n→ ∃h:(flG p g i).length<(flG p g n).length,(flG p g n)[(flG p g i).length]=g i:=by
 intro n
 induction n with
 |zero=>intro h;exact absurd h (Nat.not_lt_zero _)
 |succ n ih=>
  intro hi
  by_cases e:i=n
  ·subst e
   have e1:flG p g (i+1)=flG p g i++ [g i]:=by
    show flG p g i++(if p i=true then [g i] else [])=_
    rw [if_pos hp]
   refine ⟨by rw [e1];simp,?_⟩
   simp only [e1]
   rw [List.getElem_append_right (Nat.le_refl _)]
   simp
  ·obtain ⟨h1,h2⟩:=ih (by omega)
   have e1:flG p g (n+1)=flG p g n++(if p n=true then [g n] else []):=rfl
   refine ⟨by rw [e1,List.length_append];omega,?_⟩
   simp only [e1]
   rw [List.getElem_append_left h1]
   exact h2
theorem qxf {α:Type} (p:Nat→Bool) (g:Nat→α): ∀n,(flG p g n).length≤n:=by
 intro n
 induction n with
 |zero=>exact Nat.le_refl _
 |succ n ih=>
  show (flG p g n++if p n=true then [g n] else []).length≤_
  rw [List.length_append]
  split
  ·simp only [List.length_cons,List.length_nil];omega
  ·simp only [List.length_nil];omega
theorem qkZ {α β:Type} (p:Nat→Bool) (g:Nat→α) (k:Nat→β): ∀n,(flG p g n).length=(flG p k n).length:=by
 intro n
 induction n with
 |zero=>rfl
 |succ n ih=>
  show (flG p g n++if p n=true then [g n] else []).length=(flG p k n++if p n=true then [k n] else []).length
  rw [List.length_append,List.length_append,ih]
  split<;>rfl
def vtB (rds:List Rd) (cls own lay:List Str) (y:Int) (r:Nat):Bool:=decide (lyR lay (cls.getD r [])=y)&& !decide ((rds.getD r default).words=own)
def vtX (rds:List Rd) (cls own lay:List Str) (y:Int) (n:Nat):List (List AV):=flG (vtB rds cls own lay y) (fun r=> [.agg (rdC (rds.getD r default))]) n
theorem qzg (a b:List Str) (h:List AObj) (h1:a.length≤1000000000) (h2:b.length≤1000000000):ACalls Tryz.prog 139 [strs a,strs b] h (.bool (decide (a=b))) h:=by
 have c:=quc a b.length (fun j=>b.getD j []) h h1 h2
 have e:decide (a.length=b.length∧ ∀i,i<a.length→a.getD i []=b.getD i [])=decide (a=b):=decide_eq_decide.2 (jb ([]:Str)).symm
 rw [e]at c
 exact c
theorem qDv (u:Un) (cls own lay:List Str) (y:Int) (h:List AObj):
  ACalls Tryz.prog 161 [.agg (unC u),strs cls,strs own,strs lay,.int .i64 y] h (.fn (.func 215) [] [.ip (unC u),.ip [strs lay],.ip [strs cls],.ip [.int .i64 y],.ip [strs own]]) h:=by
 refine acO qxv ?_
 simp (disch:=omega) only [qvW,unC,go_sem]
 repeat' first
  |((first|apply qd|apply qb);exact rvk;simp only [go_sem];first|exact ql|apply qe|apply qa|apply qf|skip)
  |with_reducible first|intro _|apply aiA
 all_goals try exact clz
theorem itV (u:Un) (cls own lay:List Str) (y:Int) (hr:u.rds.length≤1000000000) (hc:cls.length=u.rds.length) (hw: ∀j,(u.rds.getD j default).words.length≤1000000000) (ho:own.length≤1000000000) (hl:lay.length≤1000000000) (hs: ∀i,(lay.getD i []).length≤100000000):
  qvi Tryz.prog 215 [.ip (unC u),.ip [strs lay],.ip [strs cls],.ip [.int .i64 y],.ip [strs own]] (vtX u.rds cls own lay y u.rds.length):=by
 intro h ts LI S E hS hE body start hts
 refine acQ qxM ?_
 simp (disch:=omega) only [qwa,unC,zC,go_sem]
 repeat' first
  |((first|apply qd|apply qb);exact rvk;simp only [go_sem];first|exact ql|apply qe|apply qa|apply qf|skip)
  |with_reducible first|intro _|apply aiA
 all_goals try exact clz
 obtain ⟨p,hp⟩: ∃p,p=vtB u.rds cls own lay y:=⟨_,rfl⟩
 obtain ⟨g,hg⟩: ∃g:Nat→List AV,g=fun r=> [.agg (rdC (u.rds.getD r default))]:=⟨_,rfl⟩
 have hX:vtX u.rds cls own lay y u.rds.length=flG p g u.rds.length:=by rw [hp,hg];rfl
 refine qu (T:=fun i:Nat×List AObj×AObj=>qT 45 [(0,.yld h.length),(2,.ip [strs lay]),(3,.ip [strs cls]),(4,.ip [.int .i64 y]),(5,.ip [strs own]),(12,zC u.rds),(13,.int .i64 u.rds.length),(14,.int .i64 i.1)])
  (H:=fun i=>i.2.1++ [.lp .ready ts LI]++ [i.2.2])
  (inv:=fun i=>i.1≤u.rds.length∧S (flG p g i.1).length i.2.1∧qP [i.2.2] 0=true) (m:=fun i=>u.rds.length-i.1) (0,h,.emp 0) ⟨Nat.zero_le _,start,rfl⟩ (Wk.temps ?_) ?_
 ·(simp only [unC,zC,strs,go_sem,qk,qh,qg,qj];try (repeat' first|(with_reducible apply aiA)|(apply qe;omega)|(apply qa;rfl)|exact ql))
 rintro ⟨i,hh,O⟩ ⟨i1,i2,i3⟩ K hK
 simp only at i1 i2 i3 hK
 obtain ⟨hlen,hlow⟩:=hS _ _ i2
 have hb:(h++ [AObj.lp LS.ready ts LI]).length=(hh++ [AObj.lp LS.ready ts LI]).length:=by simp [hlen]
 rw [hb]
 have i3': ∀m,qP (O::m) 0=true:=fun _=>i3
 by_cases hi:i<u.rds.length
 ·have q0:((i:Int)<u.rds.length)=True:=eq_true (by omega)
  have qc:((i:Int)<cls.length)=True:=eq_true (by omega)
  have hst:flG p g (i+1)=flG p g i++if p i=true then [g i] else []:=rfl
  have hpi:p i=(decide (lyR lay (cls.getD i [])=y)&& !decide ((u.rds.getD i default).words=own)):=by rw [hp];rfl
  have c27:=fun h=>lyP lay (cls.getD i []) h hl hs
  have c139:=fun h=>qzg (u.rds.getD i default).words own h (hw i) ho
  have hgi:g i= [.agg (rdC (u.rds.getD i default))]:=by rw [hg]
  have hat:=fun hpp=>qxd (p:=p) (g:=g) (i:=i) hpp hi
  obtain ⟨r,hr⟩: ∃r,r=u.rds.getD i default:=⟨_,rfl⟩
  have er:=hr.symm
  obtain ⟨c,hcx⟩: ∃c,c=cls.getD i []:=⟨_,rfl⟩
  have ec:=hcx.symm
  simp only [er,ec]at hpi c27 c139 hgi
  obtain ⟨z,hz⟩: ∃z,z=lyR lay c:=⟨_,rfl⟩
  obtain ⟨ze,hze⟩: ∃ze,ze=lyE lay:=⟨_,rfl⟩
  rw [←hz]at hpi
  simp only [←hz,←hze]at c27
  obtain ⟨b,hbx⟩: ∃b,b=decide (r.words=own):=⟨_,rfl⟩
  rw [←hbx]at hpi
  simp only [←hbx]at c139
  unfold strs at c27 c139
  by_cases gz:z=y
  ·have q1:(z=y)=True:=eq_true gz
   rw [decide_eq_true gz,Bool.true_and]at hpi
   cases b with
   |false=>
    rw [Bool.not_false]at hpi
    rw [hpi,if_pos rfl]at hst
    obtain ⟨hdl,hxx⟩:=hat hpi
    rw [hgi]at hxx
    have hdl':(flG p g i).length<(vtX u.rds cls own lay y u.rds.length).length:=by rw [hX];exact hdl
    have hxx':(vtX u.rds cls own lay y u.rds.length)[(flG p g i).length]= [.agg (rdC r)]:=by simp only [hX];exact hxx
    have hb':=fun O'=>body (flG p g i).length hh [O'] hdl' i2
    rw [hxx']at hb'
    have hlst:(flG p g (i+1)).length=(flG p g i).length+1:=by rw [hst];simp
    simp (disch:=omega) only [zC,strs,i3',q0,qc,er,ec,rdC,q1,go_sem]
    repeat' first
     |((first|refine cA (c27 _) ?_ ?_|refine cG (fun e=>c27 _) ?_ ?_|refine cA (c139 _) ?_ ?_|refine cG (fun e=>c139 _) ?_ ?_|refine cU (fun _=>c27 _) ?_ ?_|refine cU (fun _=>c139 _) ?_ ?_);exact flk;simp (disch:=omega) only [zC,rdC,strs,i3',q0,qc,q1,er,ec,go_sem])
     |((first|apply qd|apply qb);exact rvk;simp only [go_sem];first|exact ql|apply qe|apply qa|apply qf|skip)
     |with_reducible first|intro _|apply aiA
    all_goals try exact clz
    ·exact ⟨.ready,ts,LI,by rw [List.append_assoc];exact kq hlen⟩
    ·rw [List.append_assoc]
     refine km.mono ?_ (hb' _)
     rintro v h' ⟨hh',⟨rfl,hn,rfl⟩|⟨st,rfl,hs',rfl⟩⟩
     ·simp (disch:=omega) only [q1,go_sem]
      repeat' first
       |((first|apply qd|apply qb);exact rvk;simp only [go_sem];first|exact ql|apply qe|apply qa|apply qf|skip)
       |with_reducible first|intro _|apply aiA
      all_goals try exact clz
      refine hK _ _ (i+1,hh',.mem (qx (some O)+1) 89 (rdC r)) ⟨hi,by simp only;rw [hlst];exact hn,rfl⟩ (by simp only;omega) ?_
      simp only [List.append_assoc]
      refine Wk.temps ?_
      (simp only [unC,zC,strs,go_sem,qk,qh,qg,qj];try (repeat' first|(with_reducible apply aiA)|(apply qe;omega)|(apply qa;rfl)|exact ql))
     ·simp (disch:=omega) only [q1,go_sem]
      obtain ⟨r1,r2⟩:=(hE _ _ hs').ret (L:=LI) st hts
      have eO: ∀O',hh'++AObj.lp st ts LI:: [O']=(hh'++ [AObj.lp st ts LI])++ [O']:=fun _=>by simp
      rw [eO]
      exact qtc trivial r1 r2 ⟨_,.inr ⟨st,hs',rfl⟩⟩ (ql)
   |true=>
    rw [Bool.not_true]at hpi
    rw [hpi,if_neg (by simp),List.append_nil]at hst
    simp (disch:=omega) only [zC,strs,i3',q0,qc,er,ec,rdC,q1,go_sem]
    repeat' first
     |((first|refine cA (c27 _) ?_ ?_|refine cG (fun e=>c27 _) ?_ ?_|refine cA (c139 _) ?_ ?_|refine cG (fun e=>c139 _) ?_ ?_|refine cU (fun _=>c27 _) ?_ ?_|refine cU (fun _=>c139 _) ?_ ?_);exact flk;simp (disch:=omega) only [zC,rdC,strs,i3',q0,qc,q1,er,ec,go_sem])
     |((first|apply qd|apply qb);exact rvk;simp only [go_sem];first|exact ql|apply qe|apply qa|apply qf|skip)
     |with_reducible first|intro _|apply aiA
    all_goals try exact clz
    refine hK _ _ (i+1,hh,.mem (qx (some O)+1) 89 (rdC r)) ⟨hi,by simp only;rw [hst];exact i2,rfl⟩ (by simp only;omega) ?_
    simp only
    refine Wk.temps ?_
    (simp only [unC,zC,strs,go_sem,qk,qh,qg,qj];try (repeat' first|(with_reducible apply aiA)|(apply qe;omega)|(apply qa;rfl)|exact ql))
  ·have q1:(z=y)=False:=eq_false gz
   rw [decide_eq_false gz,Bool.false_and]at hpi
   rw [hpi,if_neg (by simp),List.append_nil]at hst
   simp (disch:=omega) only [zC,strs,i3',q0,qc,er,ec,rdC,q1,go_sem]
   repeat' first
    |(refine qn ( .bool false) ?_;simp (disch:=omega) only [zC,rdC,strs,i3',q0,qc,q1,er,ec,go_sem])
    |((first|refine cA (c27 _) ?_ ?_|refine cG (fun e=>c27 _) ?_ ?_|refine cU (fun _=>c27 _) ?_ ?_);exact flk;simp (disch:=omega) only [zC,rdC,strs,i3',q0,qc,q1,er,ec,go_sem])
    |((first|apply qd|apply qb);exact rvk;simp only [go_sem];first|exact ql|apply qe|apply qa|apply qf|skip)
    |with_reducible first|intro _|apply aiA
   all_goals try exact clz
   refine hK _ _ (i+1,hh,.mem (qx (some O)+1) 89 (rdC r)) ⟨hi,by simp only;rw [hst];exact i2,rfl⟩ (by simp only;omega) ?_
   simp only
   refine Wk.temps ?_
   (simp only [unC,zC,strs,go_sem,qk,qh,qg,qj];try (repeat' first|(with_reducible apply aiA)|(apply qe;omega)|(apply qa;rfl)|exact ql))
 ·have e:i=u.rds.length:=by omega
  subst e
  have q0:((u.rds.length:Int)<u.rds.length)=False:=eq_false (by omega)
  simp (disch:=omega) only [zC,i3',q0,go_sem]
  repeat' first
   |((first|apply qd|apply qb);exact rvk;simp only [go_sem];first|exact ql|apply qe|apply qa|apply qf|skip)
   |with_reducible first|intro _|apply aiA
  all_goals try exact clz
  obtain ⟨r1,r2⟩:=(hS _ _ i2).ret (L:=LI) .ready hts
  exact qoP trivial r1 r2 ⟨hh,.inl ⟨by rw [hX];exact i2,rfl⟩⟩ (ql)
theorem qlf {names:List Str} {gs:List Gr} (h:qle names gs=false) (hs:sgE names gs=0):names.length≤8∧gs.length≤8:=by
 have ho:=qcQ hs
 have h1:=ho.n32
 have h2:=ho.g16
 unfold qle at h
 simp only [Bool.or_eq_false_iff,Bool.and_eq_false_iff,decide_eq_false_iff_not]at h
 omega
theorem qrd {names:List Str} {gs:List Gr} (h:qle names gs=false):Szs names gs:=by
 obtain ⟨h1,h2,h3,h4⟩:=qtg h
 exact ⟨by omega,by omega,fun i=>by have:=h3 i;omega,fun i=>by have:=(h4 i).1;omega,fun i=>by have:=(h4 i).2;omega⟩
theorem qxe {α β:Type} {p:Nat→Bool} {g:Nat→α} {k:Nat→β}: ∀ {n i:Nat} (hi:i<(flG p g n).length),∃r,r<n∧p r=true∧(flG p g n)[i]=g r∧(flG p k n)[i]? =some (k r):=by
 intro n
 induction n with
 |zero=>intro i hi;exact absurd hi (Nat.not_lt_zero _)
 |succ n ih=>
  intro i hi
  have e1:flG p g (n+1)=flG p g n++(if p n=true then [g n] else []):=rfl
  have e2:flG p k (n+1)=flG p k n++(if p n=true then [k n] else []):=rfl
  have el:=qkZ p g k n
  by_cases hl:i<(flG p g n).length
  ·obtain ⟨r,r1,r2,r3,r4⟩:=ih hl
   refine ⟨r,by omega,r2,?_,?_⟩
   ·simp only [e1]
    rw [List.getElem_append_left hl]
    exact r3
   ·rw [e2,List.getElem?_append_left (by omega)]
    exact r4
  ·cases hp:p n with
   |false=>
    rw [e1,hp,if_neg (by simp),List.append_nil]at hi
    exact absurd hi hl
   |true=>
    have hi2:i=(flG p g n).length:=by
     rw [e1,hp,if_pos rfl,List.length_append,List.length_singleton]at hi
     omega
    refine ⟨n,by omega,hp,?_,?_⟩
    ·simp only [e1,hp,if_true]
     rw [List.getElem_append_right (by omega)]
     simp [hi2]
    ·rw [e2,hp,if_pos rfl,List.getElem?_append_right (by omega)]
     simp [hi2,el]
theorem qzA {a:Ap} (hl:lyE a.lay=0) (k y:Nat) (n:Nat):vrG a k y n=flG (vtB (a.l.getD k default).rds (a.cls.getD k []) (qig a k) a.lay y) (fun r=>(⟨((a.l.getD k default).rds.getD r default).words,shR a.x.sig a.gs ((a.l.getD k default).rds.getD r default).src⟩:Va)) n:=by
 induction n with
 |zero=>rfl
 |succ n ih=>
  unfold vrG flG
  rw [ih]
  congr 1
  unfold vtB lyR
  rw [if_pos hl]
  by_cases h1:lyN a.lay ((a.cls.getD k []).getD n [])=y
  ·by_cases h2:((a.l.getD k default).rds.getD n default).words=qig a k
   ·rw [if_neg (fun h=>h.2 h2),decide_eq_true h1,decide_eq_true h2,if_neg (by simp)]
   ·rw [if_pos ⟨h1,h2⟩,decide_eq_true h1,decide_eq_false h2,if_pos (by simp)]
  ·rw [if_neg (fun h=>h1 h.1),decide_eq_false h1,if_neg (by simp)]
def qdw (L:List Va):List AV:=L.flatMap vaC
theorem qhl (L:List Va):(qdw L).length=L.length*2:=by
 induction L with
 |nil=>rfl
 |cons a L ih=>show (vaC a++qdw L).length=_;rw [List.length_append,ih];simp [vaC];omega
theorem qqs (A B:List Va):qdw (A++B)=qdw A++qdw B:=by simp [qdw]
theorem qqt {L:List Va}: ∀ {i:Nat},i<L.length→((qdw L).drop (i*2)).take 2=vaC (L.getD i default):=by
 induction L with
 |nil=>intro i h;exact absurd h (Nat.not_lt_zero _)
 |cons a L ih=>
  intro i h
  cases i with
  |zero=>rfl
  |succ i=>
   have e:(i+1)*2=i*2+1+1:=by omega
   rw [e]
   show ((strs a.words::strs a.sigla::qdw L).drop (i*2+1+1)).take 2=_
   rw [List.drop_succ_cons,List.drop_succ_cons]
   exact ih (by simpa using h)
theorem qp1 {v n:Nat} {L:List Va} {fz:Nat→Bool} {h:List AObj} {d:Nat} (hn:n=L.length):VLe (qef (some (zM v 85 (qdw L))) v 2 0 n (rei fz h (d+1))) (zX L):=by
 subst hn
 by_cases h0:L= []
 ·subst h0
  show VLe (qef (some (.emp v)) v 2 0 0 _) _
  rw [slOf_emp,if_pos rfl]
  exact kZ
 ·have e0:zM v 85 (qdw L)= .mem v 85 (qdw L):=jB (fun e=>h0 (by
   cases L with
   |nil=>rfl
   |cons a L=>cases e))
  rw [e0,slOf_mem,if_pos ⟨rfl,by rw [qhl];omega⟩]
  refine VLe.sl_eq rfl (fun i hi=> ?_)
  simp only [Nat.zero_add]
  rw [qqt hi]
  rfl
theorem qmz {v n:Nat} {L:List En} {fz:Nat→Bool} {h:List AObj} {d:Nat} (hn:n=L.length):VLe (qef (some (zM v 58 (qbo L))) v 6 0 n (rei fz h (d+1))) (qaC L):=by
 by_cases h0:L= []
 ·subst h0
  subst hn
  show VLe (qef (some (.emp v)) v 6 0 0 _) _
  rw [slOf_emp,if_pos rfl]
  exact kZ
 ·have e0:zM v 58 (qbo L)= .mem v 58 (qbo L):=jB (fun e=>h0 (by
   cases L with
   |nil=>rfl
   |cons a L=>cases e))
  rw [e0]
  exact qpZ hn
theorem qCM (r:Rd) (own:List Str) (h:List AObj) (h1:r.words.length≤1000000000) (h2:own.length≤1000000000):ACalls Tryz.prog 162 [.agg (rdC r),.ip [strs own]] h (.bool (decide (r.words=own))) h:=by
 have c1:=fun h=>qzg r.words own h h1 h2
 unfold strs at c1
 refine acO qxw ?_
 simp (disch:=omega) only [qvX,rdC,strs,go_sem]
 repeat' first
  |((first|refine cA (c1 _) ?_ ?_|refine cG (fun e=>c1 _) ?_ ?_|refine cU (fun _=>c1 _) ?_ ?_);exact flk;simp (disch:=omega) only [rdC,strs,go_sem])
  |((first|apply qd|apply qb);exact rvk;simp only [go_sem];first|exact ql|apply qe|apply qa|apply qf|skip)
  |with_reducible first|intro _|apply aiA
 all_goals try exact clz
theorem qA6 (L:List Rd) (own:List Str) (k v:Nat) (h:List AObj) (hk:getO k h=some (.mem v 22 [strs own])) (hl:L.length≤1000000000) (hw: ∀j,(L.getD j default).words.length≤1000000000) (ho:own.length≤1000000000):
  ACalls Tryz.prog 127 [zC L,.fn (.func 162) [] [.op k v 0]] h (.int .i64 (qad (fun r=>decide ((L.getD r default).words=own)) L.length 0)) h:=by
 have hc:=qX hk
 unfold zC
 refine qaD qqR L.length (fun j=>rdC (L.getD j default)) (fun j=> .agg (rdC (L.getD j default))) _ [] [.op k v 0] _ h (fun i _=>⟨rfl,by simp [zZ,rdC],rfl,rfl,rfl⟩) (fun i _=> ?_) (by omega)
 refine ACalls.borrow ?_ rfl
 have e:([AV.agg (rdC (L.getD i default))]++ [AV.op k v 0]).map (rei (fun _=>true) h 8)= [.agg (rdC (L.getD i default)),.ip [strs own]]:=by
  simp only [List.cons_append,List.nil_append,List.map_cons,List.map_nil,rei_op,if_true,hc,ipOf_some,List.drop_zero,rei_agg]
  rfl
 rw [List.nil_append,e]
 exact qCM _ own _ (hw i) ho
theorem spK {a:Ap} (h:qnG a.x a.l a.b) {k:Nat} (hk:k<a.l.length):spF a.b k (a.l.getD k default).frm=(frK a k:Int)∧spT a.b k (a.l.getD k default).frm=(toK a k:Int):=by
 obtain ⟨F,G,hFG,hG,hb,hq,e1,e2⟩:=qhg h hk
 have f1:frK a k=F:=e1
 have f2:toK a k=G:=by
  unfold toK
  rw [f1,e2]
  omega
 rw [f1,f2]
 have hi:=qtm hG hq
 unfold spF spT qzs qzt
 by_cases hlt:F<G
 ·rw [if_pos hlt]at hi
  have hk1:qfw (inU a.b k) a.b.length F=G:=qj1 hFG hG (fun j h1 h2=>(hq j (by omega)).2 ⟨h1,h2⟩) fun h3=>by
   cases e:inU a.b k G with
   |false=>rfl
   |true=>exact absurd ((hq G h3).1 e).2 (Nat.lt_irrefl _)
  have hbe:qvm (inU a.b k) a.b.length F=false:=by
   unfold qvm
   rw [hk1]
   refine qo.2 fun i hi=> ?_
   by_cases g:G≤i
   ·cases e:inU a.b k i with
    |false=>rw [Bool.and_false]
    |true=>have:=((hq i hi).1 e).2;omega
   ·rw [decide_eq_false g,Bool.false_and]
  have hE:qmM (inU a.b k) a.b.length=0:=by
   unfold qmM
   rw [hi,if_neg (by omega),Int.toNat_natCast,hbe,if_neg (by simp)]
  rw [hE,if_pos rfl,if_pos rfl,if_pos rfl,if_pos rfl,hi,Int.toNat_natCast,hk1]
  exact ⟨rfl,rfl⟩
 ·rw [if_neg hlt]at hi
  have hE:qmM (inU a.b k) a.b.length=6:=by
   unfold qmM
   rw [hi]
   rfl
  rw [hE,if_neg (by decide),if_neg (by decide),e1]
  exact ⟨rfl,by omega⟩
theorem qm3 {t:List Str} {f d:Nat} (h:f+d<t.length):qaW t f (f+(d+1))=qaW t f (f+d)++ [t.getD (f+d) []]:=by
 unfold qaW
 rw [show f+(d+1)-f=d+1 by omega,show f+d-f=d by omega,List.take_add_one]
 congr 1
 rw [List.getElem?_drop,gdqA,zf h]
 rfl
end RC
end
