import Derived.Test.YthlgfjbghnildaaGreatDoorK15
import Derived.Test.YthlgfjbghnildaaGreatDoorK12
import Derived.Test.YthlgfjbghnildaaGreatDoorK1
import Derived.Test.YthlgfjbghnildaaGreatDoorK3
import Derived.Test.YthlgfjbghnildaaGreatDoorK6
import Derived.Test.YthlgfjbghnildaaGreatDoorProg
import Derived.Test.YthlgfjbghnildaaGreatDoorK11
import Derived.Test.YthlgfjbghnildaaGreatDoorRows
import Derived.LaidLaws
set_option linter.all false
set_option linter.unusedSimpArgs false
set_option linter.unusedVariables false
set_option linter.unusedSectionVars false
set_option maxRecDepth 100000
section
open Go Go.Proofs AF HY LN
namespace RC
set_option maxHeartbeats 16000000
def qjK (f:Nat→AV) (n:Nat):List AV:=(List.range n).map f
theorem qdU (f:Nat→AV) (n:Nat):qjK f (n+1)=qjK f n++ [f n]:=by unfold qjK;rw [List.range_succ,List.map_append];rfl
theorem qf0 (f:Nat→AV) (n:Nat):(qjK f n).length=n:=by simp [qjK]
def vsF (names:List Str) (gs:List Gr) (l:List En) (i:Nat):AV:=ql (vsL names gs (l.getD i default))
def spF (names:List Str) (gs:List Gr) (l:List En) (i:Nat):AV:=ql (zg names gs (l.getD i default).sup)
theorem qkv {n:Nat} {L M:List Int} (g:AV→AV) (hg: ∀s,g (.int .i64 s)= .int .i64 s) (hn:n=L.length):VLe (.sl n fun i=>(((qp (L++M)).drop i).take 1).map g) (ql L):=by
 subst hn
 refine VLe.sl_eq rfl fun i hi=> ?_
 rw [qQ,List.drop_append_of_le_length (by rw [qw];omega),List.take_append_of_le_length (by rw [List.length_drop,qw];omega)]
 unfold qp
 rw [←List.map_drop,List.drop_eq_getElem_cons hi,List.map_cons,List.take_succ_cons,List.take_zero,List.map_cons,List.map_nil,hg,gdqA,qR hi]
 rfl
theorem qlG {v n d:Nat} {L:List En} {fz:Nat→Bool} {h:List AObj} (hn:n=L.length):VLe (qex (some (zk v 49 (zP L))) v 6 0 n (rei fz h (d+1))) (qy L):=by
 subst hn
 by_cases e:L= []
 ·subst e
  show VLe (qex (some (.emp v)) v 6 0 0 _) _
  rw [slOf_emp,if_pos rfl]
  exact jn
 ·have e0:zk v 49 (zP L)= .mem v 49 (zP L):=jA (fun c=>e (by
   have:=congrArg List.length c
   rw [kc,List.length_nil]at this
   exact List.eq_nil_of_length_eq_zero (by omega)))
  rw [e0]
  exact qgx rfl
theorem qbX {k v z p n:Nat} (L:List Int):qas (.osl k v z p n) (ql L)=true:=rfl
theorem qgA (h:List AObj) (V:List Int):qs h (ql V)=some (V.length,qp V):=by
 show some (V.length,(List.range V.length).flatMap fun i=> [AV.int .i64 (V.getD i 0)])=_
 rw [qf5 (fun i=>AV.int .i64 (V.getD i 0))]
 congr 2
 unfold qp
 refine List.ext_getElem (by simp) fun i g1 g2=> ?_
 have hi:i<V.length:=by simpa using g1
 simp [gdqA,hi]
structure RZ (names:List Str) (gs:List Gr) (l:List En):Prop where
 hz:Szs names gs
 hl:l.length≤1000
 vl: ∀i,(l.getD i default).vars.length≤1000000
 sg: ∀i j,((l.getD i default).vars.getD j default).sigla.length≤1000000
 sp: ∀i,(l.getD i default).sup.length≤1000000
 s8:sgE names gs=0→names.length≤8∧gs.length≤8
theorem qyQ (names:List Str) (gs:List Gr) (l:List En) (layer:Int) (h:List AObj) (hc:RZ names gs l):
  qm Tryz.prog 34 [strs names,qu gs,qy l,.int .i64 layer] h (.tup [qy (rsR names gs l layer),.int .i64 (rsE names gs l)]) h:=by
 have c59:=fun h=>sgP names gs h hc.hz
 have hln:=hc.hl
 obtain ⟨R,hR⟩: ∃R,R=rsE names gs l:=⟨_,rfl⟩
 have hLR:rsR names gs l layer=if R=0 then rsL names gs l layer l.length else []:=by rw [hR];rfl
 rw [hLR,←hR]
 unfold rsE at hR
 have nl0:VLe AV.nl (qy []):=jn
 have h8:=hc.s8
 obtain ⟨s,hs⟩: ∃s,s=sgE names gs:=⟨_,rfl⟩
 rw [←hs]at c59 hR h8
 by_cases g0:s≠0
 ·have k0:(s=0)=False:=eq_false g0
  rw [if_pos g0]at hR
  rw [hR,if_neg (by decide)]
  refine acO qvk ?_
  simp (disch:=omega) only [qxx,List.replicate,go_sem]
  repeat' first
   |((first|refine cA (c59 _) ?_ ?_|refine cG (fun e=>c59 _) ?_ ?_|refine cU (fun _=>c59 _) ?_ ?_);(next=>exact flk);simp (disch:=omega) only [k0,go_sem])
   |((first|apply qc|apply qb);exact rvk;simp only [go_sem];first|exact VLe.refl _|apply qd|apply qa|apply qe|skip)
   |with_reducible first|refine And.intro ?_ ?_|intro _
  all_goals try exact clz
  exact qT ⟨nl0,VLe.refl _,trivial⟩
 have g0:s=0:=Classical.not_not.1 g0
 have k0:(s=0)=True:=eq_true g0
 obtain ⟨n8,g8⟩:=h8 g0
 rw [if_neg (fun hc=>hc g0),if_neg (by omega)]at hR
 have k1:((4096:Int)<l.length)=False:=eq_false (by omega)
 refine acO qvk ?_
 simp (disch:=omega) only [qxx,List.replicate,qy,go_sem]
 repeat' first
  |((first|refine cA (c59 _) ?_ ?_|refine cG (fun e=>c59 _) ?_ ?_|refine cU (fun _=>c59 _) ?_ ?_);(next=>exact flk);simp (disch:=omega) only [k0,k1,qy,go_sem])
  |((first|apply qc|apply qb);exact rvk;simp only [go_sem];first|exact VLe.refl _|apply qd|apply qa|apply qe|skip)
  |with_reducible first|refine And.intro ?_ ?_|intro _
 all_goals try exact clz
 refine qn (T:=fun s:Nat×Nat×Nat×AObj×AObj×AObj=>qI 143 [(0,strs names),(1,qu gs),(2,qy l),(3,.int .i64 layer),(10,.osl (h.length+1) s.2.1 1 0 s.1),(11,.osl (h.length+2) s.2.2.1 1 0 s.1),(32,qy l),(33,.int .i64 l.length),(34,.int .i64 s.1)])
  (H:=fun s=>h++ [.emp 1,zk s.2.1 37 (qjK (vsF names gs l) s.1),zk s.2.2.1 37 (qjK (spF names gs l) s.1),s.2.2.2.1,s.2.2.2.2.1,.emp 0,s.2.2.2.2.2,.emp 0,.emp 0,.emp 0,.emp 0,.emp 0,.emp 0,.emp 0,.emp 0,.emp 0])
  (inv:=fun s=>s.1≤l.length∧qH [s.2.2.2.1] 0=true∧qH [s.2.2.2.2.1] 0=true∧qH [s.2.2.2.2.2] 0=true∧ ∀k,k<s.1→qtq names gs l k=0) (m:=fun s=>l.length-s.1) (0,1,1,.emp 0,.emp 0,.emp 0) ⟨Nat.zero_le _,rfl,rfl,rfl,fun j hj=>absurd hj (Nat.not_lt_zero j)⟩ (Wk.temps ?_) ?_
 ·(simp only [qy,List.replicate,go_sem,qj,qh,qg,qi];try (repeat' first|(with_reducible refine And.intro ?_ ?_)|(apply qd;omega)|(apply qa;rfl)|exact VLe.refl _))
 rintro ⟨i,v1,v2,O3,O4,O6⟩ ⟨i1,p3,p4,p6,i2⟩ K hK
 simp only at i1 p3 p4 p6 i2 hK
 have p3': ∀m,qH (O3::m) 0=true:=fun _=>p3
 have p4': ∀m,qH (O4::m) 0=true:=fun _=>p4
 have p6': ∀m,qH (O6::m) 0=true:=fun _=>p6
 by_cases hi:i<l.length
 ·have r1:((i:Int)<l.length)=True:=eq_true (by omega)
  have hE:=qP (f:=qtq names gs l) hi i2
  have hat:qtq names gs l i=if vsE names gs (l.getD i default)≠0 then vsE names gs (l.getD i default) else ji names gs (l.getD i default).sup:=rfl
  have c60:=fun h=>vsP names gs (l.getD i default) h hc.hz (by have:=hc.vl i;omega) (fun j=>by have:=hc.sg i j;omega)
  have c62:=fun h=>qx0 names gs (l.getD i default).sup h hc.hz (by have:=hc.sp i;omega)
  have f1:vsF names gs l i=ql (vsL names gs (l.getD i default)):=rfl
  have f2:spF names gs l i=ql (zg names gs (l.getD i default).sup):=rfl
  have h1:=qdU (vsF names gs l) i
  have h2:=qdU (spF names gs l) i
  have l1:=qf0 (vsF names gs l) i
  have l2:=qf0 (spF names gs l) i
  obtain ⟨A,hA⟩: ∃A,A=qjK (vsF names gs l) i:=⟨_,rfl⟩
  obtain ⟨B,hB⟩: ∃B,B=qjK (spF names gs l) i:=⟨_,rfl⟩
  have eA:=hA.symm
  have eB:=hB.symm
  rw [eA]at h1 l1
  rw [eB]at h2 l2
  rw [f1]at h1
  rw [f2]at h2
  obtain ⟨x,hx⟩: ∃x,x=l.getD i default:=⟨_,rfl⟩
  have ex:=hx.symm
  rw [ex]at hat h1 h2
  simp only [ex]at c60 c62
  obtain ⟨y,hy⟩: ∃y,y=vsE names gs x:=⟨_,rfl⟩
  obtain ⟨z,hz⟩: ∃z,z=ji names gs x.sup:=⟨_,rfl⟩
  obtain ⟨V,hV⟩: ∃V,V=vsL names gs x:=⟨_,rfl⟩
  obtain ⟨W,hW⟩: ∃W,W=zg names gs x.sup:=⟨_,rfl⟩
  rw [←hy,←hz]at hat
  rw [←hV]at h1
  rw [←hW]at h2
  rw [←hV,←hy]at c60
  rw [←hW,←hz]at c62
  unfold enC at c60
  have t1:List.take i A=A:=List.take_of_length_le (by omega)
  have t2:List.take i B=B:=List.take_of_length_le (by omega)
  by_cases a1:y≠0
  ·have q1:(y=0)=False:=eq_false a1
   rw [if_pos a1]at hat
   rw [hE (by rw [hat];exact a1),hat]at hR
   rw [hR,if_neg a1]
   simp (disch:=omega) only [List.replicate,qy,enC,r1,ex,eA,eB,p3',p4',p6',go_sem]
   repeat' first
    |((first|refine cA (c60 _) ?_ ?_|refine cG (fun e=>c60 _) ?_ ?_|refine cU (fun _=>c60 _) ?_ ?_);(next=>exact flk);simp (disch:=omega) only [qy,enC,r1,ex,eA,eB,p3',p4',p6',q1,go_sem])
    |((first|apply qc|apply qb);exact rvk;simp only [go_sem];first|exact VLe.refl _|apply qd|apply qa|apply qe|skip)
    |with_reducible first|refine And.intro ?_ ?_|intro _
   all_goals try exact clz
   exact qT ⟨nl0,VLe.refl _,trivial⟩
  have a1:y=0:=Classical.not_not.1 a1
  have q1:(y=0)=True:=eq_true a1
  rw [if_neg (fun hc=>hc a1)]at hat
  by_cases a2:z≠0
  ·have q2:(z=0)=False:=eq_false a2
   rw [hE (by rw [hat];exact a2),hat]at hR
   rw [hR,if_neg a2]
   simp (disch:=omega) only [List.replicate,qy,enC,r1,ex,eA,eB,p3',p4',p6',go_sem]
   repeat' first
    |((first|refine cA (c60 _) ?_ ?_|refine cG (fun e=>c60 _) ?_ ?_|refine cA (c62 _) ?_ ?_|refine cG (fun e=>c62 _) ?_ ?_|refine cU (fun _=>c60 _) ?_ ?_|refine cU (fun _=>c62 _) ?_ ?_);(next=>exact flk);simp (disch:=omega) only [qy,enC,r1,ex,eA,eB,p3',p4',p6',q1,q2,go_sem])
    |((first|apply qc|apply qb);exact rvk;simp only [go_sem];first|exact VLe.refl _|apply qd|apply qa|apply qe|skip)
    |with_reducible first|refine And.intro ?_ ?_|intro _
   all_goals try exact clz
   exact qT ⟨nl0,VLe.refl _,trivial⟩
  have a2:z=0:=Classical.not_not.1 a2
  have q2:(z=0)=True:=eq_true a2
  rw [a2]at hat
  simp (disch:=omega) only [List.replicate,qy,enC,r1,ex,eA,eB,p3',p4',p6',Nat.mul_one,go_sem]
  repeat' first
   |((first|refine cA (c60 _) ?_ ?_|refine cG (fun e=>c60 _) ?_ ?_|refine cA (c62 _) ?_ ?_|refine cG (fun e=>c62 _) ?_ ?_|refine cU (fun _=>c60 _) ?_ ?_|refine cU (fun _=>c62 _) ?_ ?_);(next=>exact flk);simp (disch:=omega) only [qy,enC,r1,ex,eA,eB,p3',p4',p6',q1,q2,l1,l2,t1,t2,Nat.mul_one,go_sem])
   |((first|apply qc|apply qb);exact rvk;simp only [go_sem];first|exact VLe.refl _|apply qd|apply qa|apply qe|skip)
   |with_reducible first|refine And.intro ?_ ?_|intro _
  all_goals try exact clz
  try rw [t1]
  try rw [t2]
  rw [←h1,←h2]
  refine hK _ _ (i+1,v1+1,v2+1,.mem (qv (some O3)+1) 49 (enC x),.mem (qv (some O4)+1) 37 [ql V],.mem (qv (some O6)+1) 37 [ql W]) ⟨hi,rfl,rfl,rfl,fun k hk=> ?_⟩ (by simp only;omega) (Wk.temps ?_)
  ·by_cases e':k=i
   ·subst e';exact hat
   ·exact i2 k (by simp only at hk;omega)
  (simp only [qy,List.replicate,go_sem,qj,qh,qg,qi];try (repeat' first|(with_reducible refine And.intro ?_ ?_)|(apply qd;omega)|(apply qa;rfl)|exact VLe.refl _))
 obtain rfl:i=l.length:=by omega
 have r1:((l.length:Int)<l.length)=False:=eq_false (by omega)
 rw [qC (f:=qtq names gs l) i2]at hR
 rw [hR,if_pos rfl]
 clear hK
 have zl1: ∀g,valL g .len [qy l]= .int .i64 l.length:=fun _=>rfl
 have zl2: ∀g,okL g .len [qy l]=True:=fun _=>eq_true trivial
 simp (disch:=omega) only [List.replicate,r1,zl1,zl2,go_sem]
 repeat' first
  |((first|apply qc|apply qb);exact rvk;simp only [go_sem];first|exact VLe.refl _|apply qd|apply qa|apply qe|skip)
  |with_reducible first|refine And.intro ?_ ?_|intro _
 all_goals try exact clz
 have zF1: ∀k,vsF names gs l k=ql (vsL names gs (l.getD k default)):=fun _=>rfl
 have zF2: ∀k,spF names gs l k=ql (zg names gs (l.getD k default).sup):=fun _=>rfl
 obtain ⟨F1,hF1⟩: ∃F,F=vsF names gs l:=⟨_,rfl⟩
 obtain ⟨F2,hF2⟩: ∃F,F=spF names gs l:=⟨_,rfl⟩
 rw [←hF1]at zF1
 rw [←hF2]at zF2
 simp only [←hF1,←hF2]
 refine qn (T:=fun s:Nat×Nat×AObj×AObj×AObj×AObj=>qI 143 [(0,strs names),(1,qu gs),(2,qy l),(3,.int .i64 layer),(10,.sl l.length fun k=> [F1 k]),(11,.sl l.length fun k=> [F2 k]),(17,.osl (h.length+8) s.2.1 6 0 (rsL names gs l layer s.1).length),(68,qy l),(69,.int .i64 l.length),(70,.int .i64 s.1)])
  (H:=fun s=>h++ [.emp 1,.emp (v1+1),.emp (v2+1),O3,O4,.emp 0,O6,.emp 0,zk s.2.1 49 (zP (rsL names gs l layer s.1)),s.2.2.1,s.2.2.2.1,s.2.2.2.2.1,.emp 0,.emp 0,s.2.2.2.2.2,.emp 0])
  (inv:=fun s=>s.1≤l.length∧qH [s.2.2.1] 0=true∧qH [s.2.2.2.1] 0=true∧qH [s.2.2.2.2.1] 0=true∧qH [s.2.2.2.2.2] 0=true) (m:=fun s=>l.length-s.1) (0,1,.emp 0,.emp 0,.emp 0,.emp 0) ⟨Nat.zero_le _,rfl,rfl,rfl,rfl⟩ (Wk.trans (Wk.freeze [h.length+1,h.length+2] (by simp only [jF,go_sem])) ?_) ?_
 ·simp only [qbC,List.map,go_sem]
  refine Wk.temps ?_
  (simp only [qy,List.replicate,rsL,go_sem,qj,qh,qg,qi];try (repeat' first|(with_reducible refine And.intro ?_ ?_)|(apply qd;omega)|(apply qa;rfl)|exact VLe.refl _))
  ·rw [if_pos (by simp),if_pos (by simp)]
   unfold qjK
   exact qbT (fun k=>by rw [zF1];rfl) rfl
  ·rw [if_pos (by simp),if_pos (by simp)]
   unfold qjK
   exact qbT (fun k=>by rw [zF2];rfl) rfl
  ·rw [if_neg (by simp)]
   exact VLe.refl _
 rintro ⟨i,w,O9,O10,O11,O14⟩ ⟨i1,p9,p10,p11,p14⟩ K hK
 simp only at i1 p9 p10 p11 p14 hK
 have p9': ∀m,qH (O9::m) 0=true:=fun _=>p9
 have p10': ∀m,qH (O10::m) 0=true:=fun _=>p10
 have p11': ∀m,qH (O11::m) 0=true:=fun _=>p11
 have p14': ∀m,qH (O14::m) 0=true:=fun _=>p14
 by_cases hi:i<l.length
 ·have r1:((i:Int)<l.length)=True:=eq_true (by omega)
  have r2:(i<l.length)=True:=eq_true hi
  have hst:rsL names gs l layer (i+1)=rsL names gs l layer i++if (l.getD i default).layer≤layer then [jB names gs l layer (l.getD i default)] else []:=rfl
  have f2:=zF2 i
  have hmn:=qkI names gs l layer (l.getD i default) l.length
  have hLn:=qfi names gs l layer i
  obtain ⟨L,hL⟩: ∃L,L=rsL names gs l layer i:=⟨_,rfl⟩
  have eL:=hL.symm
  rw [eL]at hst hLn
  have eC:=kc L
  have eTk:List.take (L.length*6) (zP L)=zP L:=List.take_of_length_le (by rw [kc];omega)
  obtain ⟨x,hx⟩: ∃x,x=l.getD i default:=⟨_,rfl⟩
  have ex:=hx.symm
  rw [ex]at hst f2 hmn
  have hwl:=qbN (names:=names) (gs:=gs) (sg:=x.sup)
  obtain ⟨W,hW⟩: ∃W,W=zg names gs x.sup:=⟨_,rfl⟩
  rw [←hW]at f2 hwl
  by_cases a1:layer<x.layer
  ·have q1:(layer<x.layer)=True:=eq_true a1
   rw [if_neg (by omega),List.append_nil]at hst
   simp (disch:=omega) only [List.replicate,qy,enC,r1,ex,eL,p9',p10',p11',p14',go_sem]
   repeat' first
    |((first|apply qc|apply qb);exact rvk;simp only [go_sem];first|exact VLe.refl _|apply qd|apply qa|apply qe|skip)
    |with_reducible first|refine And.intro ?_ ?_|intro _
   all_goals try exact clz
   refine hK _ _ (i+1,w,.mem (qv (some O9)+1) 49 (enC x),O10,O11,O14) ⟨hi,rfl,p10,p11,p14⟩ (by simp only;omega) ?_
   simp only [hst]
   refine Wk.temps ?_
   (simp only [qy,List.replicate,go_sem,qj,qh,qg,qi];try (repeat' first|(with_reducible refine And.intro ?_ ?_)|(apply qd;omega)|(apply qa;rfl)|exact VLe.refl _))
  have q1:(layer<x.layer)=False:=eq_false a1
  rw [if_pos (by omega)]at hst
  cases hpos:x.pos with
  |false=>
   have h1:jB names gs l layer x=x:=if_neg (by rw [hpos];simp)
   rw [h1]at hst
   simp (disch:=omega) only [List.replicate,qy,enC,r1,ex,eL,p9',p10',p11',p14',hpos,go_sem]
   repeat' first
    |((first|apply qc|apply qb);exact rvk;simp only [go_sem];first|exact VLe.refl _|apply qd|apply qa|apply qe|skip)
    |with_reducible first|refine And.intro ?_ ?_|intro _
   all_goals try exact clz
   rw [eTk]
   refine hK _ _ (i+1,w+1,.mem (qv (some O9)+1) 49 (enC x),O10,O11,.mem (qv (some O14)+1) 49 (enC x)) ⟨hi,rfl,p10,p11,rfl⟩ (by simp only;omega) ?_
   have eA:zP (L++ [x])=zP L++enC x:=by rw [qaz];simp [zP]
   simp only [hst,eA,List.length_append,List.length_cons,List.length_nil]
   unfold enC
   rw [hpos]
   refine Wk.temps ?_
   (simp only [qy,List.replicate,enC,go_sem,qj,qh,qg,qi];try (repeat' first|(with_reducible refine And.intro ?_ ?_)|(apply qd;omega)|(apply qa;rfl)|exact VLe.refl _))
  |true=>
  simp (disch:=omega) only [List.replicate,qy,enC,r1,ex,eL,p9',p10',p11',p14',hpos,go_sem]
  repeat' first
   |((first|apply qc|apply qb);exact rvk;simp only [go_sem];first|exact VLe.refl _|apply qd|apply qa|apply qe|skip)
   |with_reducible first|refine And.intro ?_ ?_|intro _
  all_goals try exact clz
  refine qn (T:=fun s:Nat×Nat×AObj=>qI 143 [(0,strs names),(1,qu gs),(2,qy l),(3,.int .i64 layer),(10,.sl l.length fun k=> [F1 k]),(11,.sl l.length fun k=> [F2 k]),(17,.osl (h.length+8) w 6 0 L.length),(18,.int .i64 i),(19,.op (h.length+9) (qv (some O9)+1) 0),(20,.osl (h.length+10) s.2.1 1 0 (mrL names gs l layer x s.1).length),(68,qy l),(69,.int .i64 l.length),(70,.int .i64 i),(81,qy l),(82,.int .i64 l.length),(83,.int .i64 s.1)])
   (H:=fun s=>h++ [.emp 1,.emp (v1+1),.emp (v2+1),O3,O4,.emp 0,O6,.emp 0,zk w 49 (zP L),.mem (qv (some O9)+1) 49 [.int .i64 x.layer,.int .i64 x.frm,.int .i64 x.to,.bool true,strs x.sup,qB x.vars],zk s.2.1 3 (qp (mrL names gs l layer x s.1)),s.2.2,.emp 0,.emp 0,O14,.emp 0])
   (inv:=fun s=>s.1≤l.length∧qH [s.2.2] 0=true) (m:=fun s=>l.length-s.1) (0,qv (some O10)+1,O11) ⟨Nat.zero_le _,p11⟩ (Wk.temps ?_) ?_
  ·(simp only [qy,List.replicate,mrL,List.length_nil,go_sem,qj,qh,qg,qi];try (repeat' first|(with_reducible refine And.intro ?_ ?_)|(apply qd;omega)|(apply qa;rfl)|exact VLe.refl _))
  rintro ⟨k,u,Q11⟩ ⟨m1,m2⟩ KA hKA
  simp only at m1 m2 hKA
  have m2': ∀m,qH (Q11::m) 0=true:=fun _=>m2
  by_cases hk:k<l.length
  ·have t1:((k:Int)<l.length)=True:=eq_true (by omega)
   have t2:(k<l.length)=True:=eq_true hk
   have hms:mrL names gs l layer x (k+1)=mrL names gs l layer x k++if mrB l layer x k=true then vsL names gs (l.getD k default) else []:=rfl
   have hmk:=qkI names gs l layer x k
   have hmb:mrB l layer x k=(decide (layer<(l.getD k default).layer)&&(decide ((l.getD k default).frm=x.frm)&&decide ((l.getD k default).to=x.to))):=rfl
   have f1:=zF1 k
   have hvl:(vsL names gs (l.getD k default)).length≤32:=by
    unfold vsL
    split
    ·exact qS _ _
    ·exact Nat.zero_le _
   obtain ⟨M,hM⟩: ∃M,M=mrL names gs l layer x k:=⟨_,rfl⟩
   have eM:=hM.symm
   rw [eM]at hms hmk
   obtain ⟨y,hy⟩: ∃y,y=l.getD k default:=⟨_,rfl⟩
   have ey:=hy.symm
   rw [ey]at hms hmb f1 hvl
   obtain ⟨V,hV⟩: ∃V,V=vsL names gs y:=⟨_,rfl⟩
   rw [←hV]at hms f1 hvl
   have skip:mrB l layer x k=false→mrL names gs l layer x (k+1)=M:=fun hb=>by rw [hms,hb,if_neg (by simp),List.append_nil]
   by_cases b1:layer<y.layer
   case neg=>
    have u1:(layer<y.layer)=False:=eq_false b1
    have hmm:=skip (by rw [hmb,decide_eq_false b1,Bool.false_and])
    simp (disch:=omega) only [List.replicate,qy,enC,t1,ey,eM,m2',go_sem]
    repeat' first
     |((first|apply qc|apply qb);exact rvk;simp only [go_sem];first|exact VLe.refl _|apply qd|apply qa|apply qe|skip)
     |with_reducible first|refine And.intro ?_ ?_|intro _
    all_goals try exact clz
    refine hKA _ _ (k+1,u,.mem (qv (some Q11)+1) 49 (enC y)) ⟨hk,rfl⟩ (by simp only;omega) ?_
    simp only [hmm]
    refine Wk.temps ?_
    (simp only [qy,List.replicate,go_sem,qj,qh,qg,qi];try (repeat' first|(with_reducible refine And.intro ?_ ?_)|(apply qd;omega)|(apply qa;rfl)|exact VLe.refl _))
   have u1:(layer<y.layer)=True:=eq_true b1
   by_cases b2:y.frm=x.frm
   case neg=>
    have u2:(y.frm=x.frm)=False:=eq_false b2
    have hmm:=skip (by rw [hmb,decide_eq_false b2,Bool.false_and,Bool.and_false])
    simp (disch:=omega) only [List.replicate,qy,enC,t1,ey,eM,m2',go_sem]
    repeat' first
     |((first|apply qc|apply qb);exact rvk;simp only [go_sem];first|exact VLe.refl _|apply qd|apply qa|apply qe|skip)
     |with_reducible first|refine And.intro ?_ ?_|intro _
    all_goals try exact clz
    refine hKA _ _ (k+1,u,.mem (qv (some Q11)+1) 49 (enC y)) ⟨hk,rfl⟩ (by simp only;omega) ?_
    simp only [hmm]
    refine Wk.temps ?_
    (simp only [qy,List.replicate,go_sem,qj,qh,qg,qi];try (repeat' first|(with_reducible refine And.intro ?_ ?_)|(apply qd;omega)|(apply qa;rfl)|exact VLe.refl _))
   have u2:(y.frm=x.frm)=True:=eq_true b2
   by_cases b3:y.to=x.to
   case neg=>
    have u3:(y.to=x.to)=False:=eq_false b3
    have hmm:=skip (by rw [hmb,decide_eq_false b3,Bool.and_false,Bool.and_false])
    simp (disch:=omega) only [List.replicate,qy,enC,t1,ey,eM,m2',go_sem]
    repeat' first
     |((first|apply qc|apply qb);exact rvk;simp only [go_sem];first|exact VLe.refl _|apply qd|apply qa|apply qe|skip)
     |with_reducible first|refine And.intro ?_ ?_|intro _
    all_goals try exact clz
    refine hKA _ _ (k+1,u,.mem (qv (some Q11)+1) 49 (enC y)) ⟨hk,rfl⟩ (by simp only;omega) ?_
    simp only [hmm]
    refine Wk.temps ?_
    (simp only [qy,List.replicate,go_sem,qj,qh,qg,qi];try (repeat' first|(with_reducible refine And.intro ?_ ?_)|(apply qd;omega)|(apply qa;rfl)|exact VLe.refl _))
   have u3:(y.to=x.to)=True:=eq_true b3
   rw [if_pos (by rw [hmb,decide_eq_true b1,decide_eq_true b2,decide_eq_true b3];rfl)]at hms
   have eA:=qat (v:=u) (w:=u) (ty:=3) (cs:=qp M) (ms:=qp V) (qw M).symm (qw V).symm
   rw [←qQ]at eA
   have eS:=fun h=>qgA h V
   have eCM:=qw M
   have eCV:=qw V
   simp (disch:=omega) only [List.replicate,qy,enC,t1,ey,eM,m2',f1,eS,eA,eCM,eCV,Nat.mul_one,go_sem]
   repeat' first
    |((first|apply qc|apply qb);exact rvk;simp only [go_sem];first|exact VLe.refl _|apply qd|apply qa|apply qe|skip)
    |with_reducible first|refine And.intro ?_ ?_|intro _
   all_goals try exact clz
   all_goals try (exact qbX _)
   refine hKA _ _ (k+1,u+1,.mem (qv (some Q11)+1) 49 (enC y)) ⟨hk,rfl⟩ (by simp only;omega) ?_
   simp only [hms,List.length_append]
   refine Wk.temps ?_
   (simp only [qy,List.replicate,go_sem,qj,qh,qg,qi];try (repeat' first|(with_reducible refine And.intro ?_ ?_)|(apply qd;omega)|(apply qa;rfl)|exact VLe.refl _))
  obtain rfl:k=l.length:=by omega
  have t1:((l.length:Int)<l.length)=False:=eq_false (by omega)
  clear hKA
  obtain ⟨M,hM⟩: ∃M,M=mrL names gs l layer x l.length:=⟨_,rfl⟩
  have eM:=hM.symm
  rw [eM]at hmn ⊢
  have hmA:mrA names gs l layer x=M:=eM
  by_cases a2:M.length=0
  ·have q2:(0<(M.length:Int))=False:=eq_false (by omega)
   have h1:jB names gs l layer x=x:=if_neg (fun hc=>hc.2 (by rw [hmA];exact List.eq_nil_of_length_eq_zero a2))
   rw [h1]at hst
   simp (disch:=omega) only [List.replicate,qy,enC,t1,p14',q2,eC,eTk,go_sem]
   repeat' first
    |((first|apply qc|apply qb);exact rvk;simp only [go_sem];first|exact VLe.refl _|apply qd|apply qa|apply qe|skip)
    |with_reducible first|refine And.intro ?_ ?_|intro _
   all_goals try exact clz
   try rw [eTk]
   refine hK _ _ (i+1,w+1,.mem (qv (some O9)+1) 49 (enC x),zk u 3 (qp M),Q11,.mem (qv (some O14)+1) 49 (enC x)) ⟨hi,rfl,site_own0,m2,rfl⟩ (by simp only;omega) ?_
   have eA:zP (L++ [x])=zP L++enC x:=by rw [qaz];simp [zP]
   simp only [hst,eA,List.length_append,List.length_cons,List.length_nil]
   unfold enC
   rw [hpos]
   refine Wk.temps ?_
   (simp only [qy,List.replicate,enC,go_sem,qj,qh,qg,qi];try (repeat' first|(with_reducible refine And.intro ?_ ?_)|(apply qd;omega)|(apply qa;rfl)|exact VLe.refl _))
  have q2:(0<(M.length:Int))=True:=eq_true (by omega)
  have hMn:M≠ []:=fun hc=>a2 (by rw [hc];rfl)
  have h1:jB names gs l layer x= { x with sup:=shR names gs (qmO names gs l layer x) }:=if_pos ⟨hpos,by rw [hmA];exact hMn⟩
  rw [h1]at hst
  have eA:=qat (v:=u) (w:=u) (ty:=3) (cs:=qp M) (ms:=qp W) (qw M).symm (qw W).symm
  rw [←qQ,jA (v:=u+1) (cs:=qp (M++W)) (fun hc=>hMn (List.append_eq_nil_iff.1 (qb9.1 hc)).1)]at eA
  have eS:=fun h=>qgA h W
  have eCM:=qw M
  have eCW:=qw W
  have hUn:=qsO names gs l layer x
  have hUs:=qmc names gs l layer x
  rw [hmA,←hW]at hUn
  obtain ⟨U,hU⟩: ∃U,U=qmO names gs l layer x:=⟨_,rfl⟩
  rw [←hU]at hUn hUs hst
  simp (disch:=omega) only [List.replicate,qy,enC,t1,q2,r2,f2,eS,eA,eCM,eCW,Nat.mul_one,go_sem]
  repeat' first
   |((first|apply qc|apply qb);exact rvk;simp only [go_sem];first|exact VLe.refl _|apply qd|apply qa|apply qe|skip)
   |with_reducible first|refine And.intro ?_ ?_|intro _
  all_goals try exact clz
  all_goals try (exact qbX _)
  have hsE:qgC names gs U=0:=by
   unfold qgC
   rw [if_pos (by rw [←hs];exact g0)]
   exact hUs
  have hUl:U.length≤names.length:=by rw [hU];exact qS _ _
  have c61:=fun h=>qAT names gs U h hc.hz (by omega) (fun _=>⟨n8,g8⟩)
  rw [hsE]at c61
  obtain ⟨S,hS⟩: ∃S,S=shR names gs U:=⟨_,rfl⟩
  rw [←hS]at c61 hst
  refine zq (qAZ (M++W) (h.length+10) (u+1) (M.length+W.length) _ (by rw [List.length_append]) (by simp only [go_sem]) (by rw [List.length_append];omega)) (by exact flk) ?_
  simp (disch:=omega) only [go_sem]
  repeat' first
   |((first|apply qc|apply qb);exact rvk;simp only [go_sem];first|exact VLe.refl _|apply qd|apply qa|apply qe|skip)
   |with_reducible first|refine And.intro ?_ ?_|intro _
  refine zq (qAr (qlV (M++W)) (h.length+10) (u+1) (M.length+W.length) _ (by rw [qdt,List.length_append]) (by simp only [go_sem]) (by rw [qdt,List.length_append];omega)) (by exact flk) ?_
  simp (disch:=omega) only [hUn,go_sem]
  repeat' first
   |((first|apply qc|apply qb);exact rvk;simp only [go_sem];first|exact VLe.refl _|apply qd|apply qa|apply qe|skip)
   |with_reducible first|refine And.intro ?_ ?_|intro _
  refine zq (qAD [h.length+10] ?fz ((c61 _).le ?hv (VLe.refl _))) (by exact flk) ?_
  case fz=>simp only [jF,go_sem]
  case hv=>
   simp only [qbC,List.map,go_sem]
   refine ⟨VLe.refl _,VLe.refl _,?_,trivial⟩
   rw [if_pos (by simp),if_pos (by simp)]
   rw [if_pos (by rw [qw,List.length_append];omega)]
   exact qkv _ (fun _=>rfl) rfl
  simp only [qbC,List.map,go_sem]
  simp (disch:=omega) only [p14',eC,eTk,go_sem]
  repeat' first
   |((first|apply qc|apply qb);exact rvk;simp only [go_sem];first|exact VLe.refl _|apply qd|apply qa|apply qe|skip)
   |with_reducible first|refine And.intro ?_ ?_|intro _
  all_goals try exact clz
  try rw [eTk]
  refine hK _ _ (i+1,w+1,.mem (qv (some O9)+1) 49 (enC { x with sup:=S }),.emp (u+1+1),Q11,.mem (qv (some O14)+1) 49 (enC { x with sup:=S })) ⟨hi,rfl,rfl,m2,rfl⟩ (by simp only;omega) ?_
  have eA2:zP (L++ [{ x with sup:=S }])=zP L++enC { x with sup:=S }:=by rw [qaz];simp [zP]
  simp only [hst,eA2,List.length_append,List.length_cons,List.length_nil]
  unfold enC
  rw [hpos]
  refine Wk.temps ?_
  (simp only [qy,List.replicate,enC,go_sem,qj,qh,qg,qi];try (repeat' first|(with_reducible refine And.intro ?_ ?_)|(apply qd;omega)|(apply qa;rfl)|exact VLe.refl _))
 obtain rfl:i=l.length:=by omega
 have r1:((l.length:Int)<l.length)=False:=eq_false (by omega)
 obtain ⟨L,hL⟩: ∃L,L=rsL names gs l layer l.length:=⟨_,rfl⟩
 rw [←hL]
 simp (disch:=omega) only [List.replicate,r1,go_sem]
 repeat' first
  |((first|apply qc|apply qb);exact rvk;simp only [go_sem];first|exact VLe.refl _|apply qd|apply qa|apply qe|skip)
  |with_reducible first|refine And.intro ?_ ?_|intro _
 all_goals try exact clz
 exact qT ⟨qlG rfl,VLe.refl _,trivial⟩
end RC
end
section
open Go Go.Proofs AF
end
section
open Go Go.Proofs AF HY LN
namespace RC
set_option maxHeartbeats 16000000
end RC
end
section
open Go Go.Proofs AF HY LN
namespace RC
set_option maxHeartbeats 16000000
end RC
end
section
open Go Go.Proofs AF HY LN
namespace RC
set_option maxHeartbeats 16000000
theorem qAU (e:En) (h:List AObj) (hs:e.sup.length≤1000000000) (hv:e.vars.length≤1000000000) (hw: ∀j,(e.vars.getD j default).words.length≤1000000000) (hg: ∀j,(e.vars.getD j default).sigla.length≤1000000000):
  qm Tryz.prog 68 [.agg (enC e),.agg (enC e)] h (.bool true) h:=by
 have c85:=fun h=>qxj e.sup e.sup h hs hs
 rw [decide_eq_true rfl]at c85
 have zv1: ∀g,valL g .len [qB e.vars]= .int .i64 e.vars.length:=fun _=>rfl
 have zv2: ∀g,okL g .len [qB e.vars]=True:=fun _=>eq_true trivial
 refine acO qyi ?_
 simp (disch:=omega) only [qzx,List.replicate,enC,zv1,zv2,go_sem]
 repeat' first
  |((first|refine cA (c85 _) ?_ ?_|refine cG (fun e=>c85 _) ?_ ?_|refine cU (fun _=>c85 _) ?_ ?_);(next=>exact flk);simp (disch:=omega) only [enC,zv1,zv2,go_sem])
  |((first|apply qc|apply qb);exact rvk;simp only [go_sem];first|exact VLe.refl _|apply qd|apply qa|apply qe|skip)
  |with_reducible first|refine And.intro ?_ ?_|intro _
 all_goals try exact clz
 refine qn (T:=fun i:Nat=>qI 86 [(2,.op h.length 1 0),(3,.op (h.length+1) 1 0),(5,.int .i64 i)])
  (H:=fun _=>h++ [.mem 1 49 [.int .i64 e.layer,.int .i64 e.frm,.int .i64 e.to,.bool e.pos,strs e.sup,qB e.vars],.mem 1 49 [.int .i64 e.layer,.int .i64 e.frm,.int .i64 e.to,.bool e.pos,strs e.sup,qB e.vars]])
  (inv:=fun i=>i≤e.vars.length) (m:=fun i=>e.vars.length-i) 0 (Nat.zero_le _) (Wk.temps ?_) ?_
 ·(simp only [List.replicate,go_sem,qj,qh,qg,qi];try (repeat' first|(with_reducible refine And.intro ?_ ?_)|(apply qd;omega)|(apply qa;rfl)|exact VLe.refl _))
 rintro i i1 K hK
 by_cases hi:i<e.vars.length
 ·have k1:((i:Int)<e.vars.length)=True:=eq_true (by omega)
  have cw:=fun h=>qxj (e.vars.getD i default).words (e.vars.getD i default).words h (hw i) (hw i)
  have cg:=fun h=>qxj (e.vars.getD i default).sigla (e.vars.getD i default).sigla h (hg i) (hg i)
  rw [decide_eq_true rfl]at cw cg
  obtain ⟨x,hx⟩: ∃x,x=e.vars.getD i default:=⟨_,rfl⟩
  have ex:=hx.symm
  simp only [ex]at cw cg
  have zz:qB e.vars= .sl e.vars.length fun i=>vaC (e.vars.getD i default):=rfl
  simp (disch:=omega) only [List.replicate,zz,vaC,k1,ex,go_sem]
  repeat' first
   |((first|refine cA (cw _) ?_ ?_|refine cG (fun e=>cw _) ?_ ?_|refine cA (cg _) ?_ ?_|refine cG (fun e=>cg _) ?_ ?_|refine cU (fun _=>cw _) ?_ ?_|refine cU (fun _=>cg _) ?_ ?_);(next=>exact flk);simp (disch:=omega) only [zz,vaC,k1,ex,go_sem])
   |((first|apply qc|apply qb);exact rvk;simp only [go_sem];first|exact VLe.refl _|apply qd|apply qa|apply qe|skip)
   |with_reducible first|refine And.intro ?_ ?_|intro _
  all_goals try exact clz
  refine hK _ _ (i+1) hi (by omega) (Wk.temps ?_)
  (simp only [List.replicate,zz,go_sem,qj,qh,qg,qi];try (repeat' first|(with_reducible refine And.intro ?_ ?_)|(apply qd;omega)|(apply qa;rfl)|exact VLe.refl _))
 ·have k1:((i:Int)<e.vars.length)=False:=eq_false (by omega)
  simp (disch:=omega) only [List.replicate,k1,zv1,zv2,go_sem]
  repeat' first
   |((first|apply qc|apply qb);exact rvk;simp only [go_sem];first|exact VLe.refl _|apply qd|apply qa|apply qe|skip)
   |with_reducible first|refine And.intro ?_ ?_|intro _
  all_goals try exact clz
structure EqZ (l:List En):Prop where
 n:l.length≤1000000000
 s: ∀i,(l.getD i default).sup.length≤1000000000
 v: ∀i,(l.getD i default).vars.length≤1000000000
 w: ∀i j,((l.getD i default).vars.getD j default).words.length≤1000000000
 g: ∀i j,((l.getD i default).vars.getD j default).sigla.length≤1000000000
theorem qAR (l:List En) (h:List AObj) (hz:EqZ l):qm Tryz.prog 36 [qy l,qy l] h (.bool true) h:=by
 have c68:=fun i h=>qAU (l.getD i default) h (hz.s i) (hz.v i) (hz.w i) (hz.g i)
 have hn:=hz.n
 refine acO qx6 ?_
 simp (disch:=omega) only [qzm,List.replicate,qy,go_sem]
 repeat' first
  |((first|apply qc|apply qb);exact rvk;simp only [go_sem];first|exact VLe.refl _|apply qd|apply qa|apply qe|skip)
  |with_reducible first|refine And.intro ?_ ?_|intro _
 all_goals try exact clz
 refine qn (T:=fun i:Nat=>qI 27 [(0,qy l),(1,qy l),(5,.int .i64 i)]) (H:=fun _=>h) (inv:=fun i=>i≤l.length) (m:=fun i=>l.length-i) 0 (Nat.zero_le _) (Wk.temps ?_) ?_
 ·(simp only [qy,List.replicate,go_sem,qj,qh,qg,qi];try (repeat' first|(with_reducible refine And.intro ?_ ?_)|(apply qd;omega)|(apply qa;rfl)|exact VLe.refl _))
 rintro i i1 K hK
 by_cases hi:i<l.length
 ·have k1:((i:Int)<l.length)=True:=eq_true (by omega)
  have c68:=c68 i
  obtain ⟨x,hx⟩: ∃x,x=l.getD i default:=⟨_,rfl⟩
  have ex:=hx.symm
  simp only [ex]at c68
  unfold enC at c68
  simp (disch:=omega) only [List.replicate,qy,enC,k1,ex,go_sem]
  repeat' first
   |((first|refine cA (c68 _) ?_ ?_|refine cG (fun e=>c68 _) ?_ ?_|refine cU (fun _=>c68 _) ?_ ?_);(next=>exact flk);simp (disch:=omega) only [qy,enC,k1,ex,go_sem])
   |((first|apply qc|apply qb);exact rvk;simp only [go_sem];first|exact VLe.refl _|apply qd|apply qa|apply qe|skip)
   |with_reducible first|refine And.intro ?_ ?_|intro _
  all_goals try exact clz
  refine hK _ _ (i+1) hi (by omega) (Wk.temps ?_)
  (simp only [qy,List.replicate,go_sem,qj,qh,qg,qi];try (repeat' first|(with_reducible refine And.intro ?_ ?_)|(apply qd;omega)|(apply qa;rfl)|exact VLe.refl _))
 ·have k1:((i:Int)<l.length)=False:=eq_false (by omega)
  simp (disch:=omega) only [List.replicate,qy,k1,go_sem]
  repeat' first
   |((first|apply qc|apply qb);exact rvk;simp only [go_sem];first|exact VLe.refl _|apply qd|apply qa|apply qe|skip)
   |with_reducible first|refine And.intro ?_ ?_|intro _
  all_goals try exact clz
end RC
end
section
open Go Go.Proofs AF
end
section
open Go Go.Proofs AF HY LN
namespace RC
set_option maxHeartbeats 16000000
end RC
end
section
open Go Go.Proofs AF HY LN
namespace RC
set_option maxHeartbeats 8000000
theorem qax {a b:En}:jb a b=false↔a.to≤b.frm∧ ¬(a.frm=b.frm∧a.to=b.to):=by
 unfold jb
 rw [Bool.or_eq_false_iff,decide_eq_false_iff_not,Bool.and_eq_false_iff,decide_eq_false_iff_not,decide_eq_false_iff_not]
 omega
theorem qyN {L:List En} (hs:L.Pairwise fun a b=>qaq b a=false) (hr: ∀e∈L,e.frm≤e.to) (hc:zQ L=false):L.Pairwise fun a b=>jb a b=false:=by
 induction L with
 |nil=>exact List.Pairwise.nil
 |cons a r ih=>
  have h0:=qlZ hs hc
  obtain ⟨h1,h2⟩:=List.pairwise_cons.1 hs
  have h3:=ih h2 (fun e he=>hr e (List.mem_cons_of_mem _ he)) (qcE hc)
  refine List.pairwise_cons.2 ⟨?_,h3⟩
  cases r with
  |nil=>intro z hz;cases hz
  |cons b r=>
   have hab:jb a b=false:=by
    rw [zQ,Bool.or_eq_false_iff]at hc
    exact hc.1
   intro z hz
   have g0:=kN.1 ((List.pairwise_cons.1 h0).1 z hz)
   rcases List.mem_cons.1 hz with rfl|hz'
   ·exact hab
   ·have g1:=qax.1 ((List.pairwise_cons.1 h3).1 z hz')
    have g2:=qax.1 hab
    have g3:=hr b (by simp)
    rw [qax]
    omega
theorem qfZ: ∀ {L:List En},(L.Pairwise fun a b=>jb a b=false)→zQ L=false
 | [],_=>rfl
 | [_],_=>rfl
 |a::b::r,h=>by
  obtain ⟨h1,h2⟩:=List.pairwise_cons.1 h
  rw [zQ,h1 b (by simp),qfZ h2]
  rfl
theorem qhr (names:List Str) (gs:List Gr) (l:List En) (src:Int) (p:En→Bool):ofE names gs (l.filter p) src=(ofE names gs l src).filter p:=by
 have h:=qbi qc2 qc1 p l [] List.Pairwise.nil
 unfold ofE zX
 rw [List.filter_nil]at h
 rw [←h,List.filter_reverse,List.filter_reverse,List.filter_reverse,List.filter_filter,List.filter_filter]
 congr 2
 funext x
 exact Bool.and_comm _ _
theorem qp0 {names:List Str} {gs:List Gr} {e:En} {x:Int} {k:Nat} (hk:k<e.vars.length) (hx:x∈zg names gs (e.vars.getD k default).sigla):qar names gs x e=true:=by
 have h:zS (fun i=>decide (x∈zg names gs (e.vars.getD i default).sigla)) e.vars.length=true:=qW.2 ⟨k,hk,decide_eq_true hx⟩
 exact h
theorem qv3 {names:List Str} {gs:List Gr} {t:List Str} {l:List En} (h:qeJ names gs t l) {s:Nat} (hs:s<names.length):(ofE names gs l (s:Int)).Pairwise fun a b=>jb a b=false:=by
 refine qyN (qhs names gs l s) (fun e he=> ?_) (kZ h.cl hs)
 have h1:e∈zX l:=(List.mem_filter.1 he).1
 have h2:=jh.1 (h.ck e ((zO l).subset h1))
 exact h2.rng.2.1
theorem qeJ.filter {names:List Str} {gs:List Gr} {t:List Str} {l:List En} (h:qeJ names gs t l) (p:En→Bool):qeJ names gs t (l.filter p):=
 ⟨h.sg,Nat.le_trans (List.length_filter_le _ _) h.n,fun e he=>h.ck e ((List.mem_filter.1 he).1),qD.2 fun s hs=>by
  rw [qhr]
  exact qfZ (List.Pairwise.filter _ (qv3 h hs))⟩
theorem qeo (names:List Str) (gs:List Gr) (l:List En) (layer:Int):rsL names gs l layer l.length=(l.filter fun e=>decide (e.layer≤layer)).map (jB names gs l layer):=by
 have key: ∀n,n≤l.length→rsL names gs l layer n=((l.take n).filter fun e=>decide (e.layer≤layer)).map (jB names gs l layer):=by
  intro n
  induction n with
  |zero=>intro _;rfl
  |succ n ih=>
   intro hn
   have e:l.take (n+1)=l.take n++ [l.getD n default]:=by
    rw [List.take_add_one,qR (show n<l.length by omega),gdqA,qR (show n<l.length by omega)]
    rfl
   rw [rsL,ih (by omega),e,List.filter_append,List.map_append]
   congr 1
   by_cases h:(l.getD n default).layer≤layer
   ·rw [if_pos h,List.filter_cons_of_pos (by simpa using h)]
    rfl
   ·rw [if_neg h,List.filter_cons_of_neg (by simpa using h)]
    rfl
 rw [key l.length (Nat.le_refl _),List.take_length]
theorem qv0 (names:List Str) (gs:List Gr) (l:List En) (layer:Int) (e:En):nfE (jB names gs l layer e)=nfE e:=by
 unfold jB
 split
 ·rfl
 ·rfl
theorem qch (names:List Str) (gs:List Gr) (l:List En) (layer:Int) (e:En):(jB names gs l layer e).layer=e.layer∧(jB names gs l layer e).vars=e.vars:=by
 unfold jB
 split
 ·exact ⟨rfl,rfl⟩
 ·exact ⟨rfl,rfl⟩
theorem qrP {L:List En} {R:En→En→Prop} (h:L.Pairwise R) {a b:En} (ha:a∈L) (hb:b∈L) (hne:a≠b):R a b∨R b a:=by
 induction L with
 |nil=>cases ha
 |cons c r ih=>
  obtain ⟨h1,h2⟩:=List.pairwise_cons.1 h
  rcases List.mem_cons.1 ha with ea|na
  ·rcases List.mem_cons.1 hb with eb|nb
   ·exact absurd (ea.trans eb.symm) hne
   ·rw [ea];exact .inl (h1 b nb)
  ·rcases List.mem_cons.1 hb with eb|nb
   ·rw [eb];exact .inr (h1 a na)
   ·exact ih h2 na nb
theorem qst {names:List Str} {gs:List Gr} {t:List Str} {l:List En} (h:qeJ names gs t l):rsE names gs l=0:=by
 unfold rsE
 rw [if_neg (fun hc=>hc h.sg),if_neg (by have:=h.n;omega)]
 refine qC fun i hi=> ?_
 have hm:l.getD i default∈l:=by rw [gdqA,qR hi];exact List.getElem_mem hi
 have hc:=h.ck _ hm
 obtain ⟨hv,_⟩:=qsV hc
 unfold qtq
 rw [if_neg (fun hn=>hn hv)]
 exact (jh.1 hc).es
theorem qwH {names:List Str} {gs:List Gr} {t:List Str} {e:En} (h:kX names gs t e=0) {x:Int} (hx:x∈vsL names gs e): ∃j,j<e.vars.length∧x∈zg names gs (e.vars.getD j default).sigla:=by
 obtain ⟨hv,_⟩:=qsV h
 rw [qmE hv]at hx
 have c:=jh.1 h
 have ht:(zZ names gs (noS e) e.vars.length).2=false:=by
  refine qiq (e:=noS e) _ (fun j k hj hk x hx=>qbW c.tc hj hk hx) (fun k hk x hx=> ?_)
  rw [show (noS e).sup= []from rfl,kf]at hx
  cases hx
 rcases (qaU names gs (noS e) _ ht x).1 hx with h1|h1
 ·rw [show (noS e).sup= []from rfl,kf]at h1
  cases h1
 ·exact h1
theorem qr7 {names:List Str} {gs:List Gr} {t:List Str} {l:List En} (h:qeJ names gs t l) {layer:Int} {e:En} (he:e∈l) (hl:e.layer≤layer):kX names gs t (jB names gs l layer e)=0:=by
 have hc:=h.ck e he
 have c:=jh.1 hc
 unfold jB
 split
 case isFalse=>exact hc
 case isTrue hp=>
  obtain ⟨hp,_⟩:=hp
  have hst:qgC names gs (qmO names gs l layer e)=0:=by
   unfold qgC
   rw [if_pos h.sg]
   exact qmc _ _ _ _ _
  obtain ⟨s1,s2⟩:=qsE hst
  have hpe: { e with sup:=shR names gs (qmO names gs l layer e) }= { e with pos:=true,sup:=shR names gs (qmO names gs l layer e) }:=by
   cases e
   simp only at hp
   rw [hp]
  rw [hpe]
  refine qpg hc s1 fun k hk x hx hxk=> ?_
  rw [s2]at hx
  obtain ⟨u,hu,hb,rfl⟩:=jp.1 hx
  have hb:=of_decide_eq_true hb
  rcases List.mem_append.1 hb with hb|hb
  ·obtain ⟨j,hj,hm,hv⟩:=(qkJ _).1 hb
   have hjm:l.getD j default∈l:=by rw [gdqA,qR hj];exact List.getElem_mem hj
   obtain ⟨o,ho⟩: ∃o,o=l.getD j default:=⟨_,rfl⟩
   unfold mrB at hm
   rw [←ho]at hm hv hjm
   simp only [Bool.and_eq_true,decide_eq_true_eq]at hm
   obtain ⟨m1,m2,m3⟩:=hm
   obtain ⟨p,hp1,hp2⟩:=qwH (h.ck o hjm) hv
   have a1:e∈ofE names gs l (u:Int):=List.mem_filter.2 ⟨(zO l).symm.subset he,qp0 hk hxk⟩
   have a2:o∈ofE names gs l (u:Int):=List.mem_filter.2 ⟨(zO l).symm.subset hjm,qp0 hp1 hp2⟩
   have hne:e≠o:=fun hc=>by rw [hc]at hl;omega
   rcases qrP (qv3 h hu) a1 a2 hne with hr|hr
   ·exact (qax.1 hr).2 ⟨m2.symm,m3.symm⟩
   ·exact (qax.1 hr).2 ⟨m2,m3⟩
  ·exact qqp c.tc hk hb hxk
theorem qeJ.layers {names:List Str} {gs:List Gr} {t:List Str} {l:List En} (h:qeJ names gs t l) (layer:Int):qeJ names gs t (rsL names gs l layer l.length):=by
 have hf:=h.filter fun e=>decide (e.layer≤layer)
 rw [qeo]
 refine ⟨h.sg,by rw [List.length_map];exact hf.n,fun e he=> ?_,?_⟩
 ·obtain ⟨e0,he0,rfl⟩:=List.mem_map.1 he
  obtain ⟨h1,h2⟩:=List.mem_filter.1 he0
  exact qr7 h h1 (of_decide_eq_true h2)
 ·rw [←qp6,List.map_map]
  have:(nfE∘jB names gs l layer)=nfE:=by funext e;exact qv0 _ _ _ _ _
  rw [this,qp6]
  exact hf.cl
theorem qwm {names:List Str} {gs:List Gr} {t:List Str} {l:List En} (h:qeJ names gs t l) {layer:Int} (hl:15≤layer):rsL names gs l layer l.length=l:=by
 have hlay: ∀e∈l,e.layer≤layer:=fun e he=>by have:=(jh.1 (h.ck e he)).lay;omega
 have hone: ∀e,jB names gs l layer e=e:=fun e=>by
  have hm:mrA names gs l layer e= []:=by
   refine List.eq_nil_iff_forall_not_mem.2 fun x hx=> ?_
   obtain ⟨j,hj,hb,_⟩:=(qkJ _).1 hx
   have:=hlay (l.getD j default) (by rw [gdqA,qR hj];exact List.getElem_mem hj)
   unfold mrB at hb
   simp only [Bool.and_eq_true,decide_eq_true_eq]at hb
   omega
  unfold jB
  rw [if_neg (fun hc=>hc.2 hm)]
 rw [qeo,List.filter_eq_self.2 (fun e he=>decide_eq_true (hlay e he))]
 rw [show jB names gs l layer=id from funext hone,List.map_id]
theorem qss {names:List Str} {gs:List Gr} {t:List Str} {l:List En} (h:qeJ names gs t l):rsL names gs l (-1) l.length= []:=by
 rw [qeo,List.map_eq_nil_iff,List.filter_eq_nil_iff]
 intro e he hc
 have:=(jh.1 (h.ck e he)).lay
 have:=of_decide_eq_true hc
 omega
end RC
end
section
open Go Go.Proofs AF HY LN
namespace RC
set_option maxHeartbeats 16000000
theorem qwy (names:List Str) (gs:List Gr) (U:List Int):(shR names gs U).length≤200:=by
 unfold shR
 split
 ·rw [List.length_map]
  unfold qxb
  obtain ⟨k,_,e⟩:=qji gs (jf U) (kl gs (jf U)) (2^(kl gs (jf U)).length-1)
  rw [e,qdm]
  have h1:=qS k.testBit 64
  have h2:=qS (anN (jf U) (chN (usM gs (kl gs (jf U))) k)).testBit 64
  unfold qmL
  omega
 ·exact Nat.zero_le _
theorem qaD {α:Type} [Inhabited α] {L:List α} {P:α→Prop} (hd:P default) (h: ∀e∈L,P e) (i:Nat):P (L.getD i default):=by
 rw [gdqA]
 by_cases hi:i<L.length
 ·rw [qR hi];exact h _ (List.getElem_mem hi)
 ·rw [List.getElem?_eq_none (by omega)];exact hd
theorem qcd {α:Type} [Inhabited α] {L:List α} {P:α→Prop} (h: ∀i,P (L.getD i default)) {e:α} (he:e∈L):P e:=by
 obtain ⟨i,hi,rfl⟩:=List.getElem_of_mem he
 have:=h i
 rw [gdqA,qR hi]at this
 exact this
theorem qep {names:List Str} {gs:List Gr} {l:List En} {layer:Int} {e:En} (he:e∈rsR names gs l layer): ∃e0∈l,e=jB names gs l layer e0:=by
 unfold rsR at he
 split at he
 ·rw [qeo]at he
  obtain ⟨e0,h1,rfl⟩:=List.mem_map.1 he
  exact ⟨e0,(List.mem_filter.1 h1).1,rfl⟩
 ·cases he
theorem qsr (names:List Str) (gs:List Gr) (l:List En) (layer:Int):(rsR names gs l layer).length≤l.length:=by
 unfold rsR
 split
 ·exact qfi _ _ _ _ _
 ·exact Nat.zero_le _
theorem qr8 {names:List Str} {gs:List Gr} {l:List En} {layer:Int} {e:En} (h:e.sup.length≤1000):(jB names gs l layer e).sup.length≤1000:=by
 unfold jB
 split
 ·have:=qwy names gs (qmO names gs l layer e)
  show (shR names gs (qmO names gs l layer e)).length≤_
  omega
 ·exact h
theorem qyP {names:List Str} {gs:List Gr} {t:List Str} {l:List En} (h:CSz names gs t l) (layer:Int):
  (∀i,((rsR names gs l layer).getD i default).sup.length≤1000)∧(∀i,((rsR names gs l layer).getD i default).vars.length≤1000)∧
  (∀i j,(((rsR names gs l layer).getD i default).vars.getD j default).words.length≤1000)∧(∀i j,(((rsR names gs l layer).getD i default).vars.getD j default).sigla.length≤1000):=by
 refine ⟨fun i=>qaD (P:=fun e:En=>e.sup.length≤1000) (Nat.zero_le _) (fun e he=> ?_) i,fun i=>qaD (P:=fun e:En=>e.vars.length≤1000) (Nat.zero_le _) (fun e he=> ?_) i,
  fun i=>qaD (P:=fun e:En=> ∀j,(e.vars.getD j default).words.length≤1000) (fun j=>Nat.zero_le _) (fun e he=> ?_) i,fun i=>qaD (P:=fun e:En=> ∀j,(e.vars.getD j default).sigla.length≤1000) (fun j=>Nat.zero_le _) (fun e he=> ?_) i⟩
 ·obtain ⟨e0,h1,rfl⟩:=qep he
  exact qr8 (qcd (P:=fun e:En=>e.sup.length≤1000) h.sp h1)
 ·obtain ⟨e0,h1,rfl⟩:=qep he
  rw [(qch names gs l layer e0).2]
  exact qcd (P:=fun e:En=>e.vars.length≤1000) h.vl h1
 ·obtain ⟨e0,h1,rfl⟩:=qep he
  rw [(qch names gs l layer e0).2]
  exact qcd (P:=fun e:En=> ∀j,(e.vars.getD j default).words.length≤1000) h.wl h1
 ·obtain ⟨e0,h1,rfl⟩:=qep he
  rw [(qch names gs l layer e0).2]
  exact qcd (P:=fun e:En=> ∀j,(e.vars.getD j default).sigla.length≤1000) h.sg h1
theorem qsw {names:List Str} {gs:List Gr} {t:List Str} {l:List En} (hg:qeH names gs t l=false):RZ names gs l:=by
 have hc:=qdb hg
 exact ⟨hc.hz,by have:=hc.ln;omega,fun i=>by have:=hc.vl i;omega,fun i j=>by have:=hc.sg i j;omega,fun i=>by have:=hc.sp i;omega,qki hg⟩
end RC
end
section
open Go Go.Proofs AF HY LN
namespace RC
set_option maxHeartbeats 16000000
theorem ly1 (y:En) (n:Int) (h:List AObj):qm Tryz.prog 38 [.agg (enC y),.ip [.int .i64 n]] h (.bool (decide (n<y.layer))) h:=by
 by_cases g:n<y.layer
 ·have k:(n<y.layer)=True:=eq_true g
  rw [decide_eq_true g]
  refine acO qvm ?_
  simp (disch:=omega) only [qxy,List.replicate,enC,k,go_sem]
  repeat' first
   |((first|apply qc|apply qb);exact rvk;simp only [go_sem];first|exact VLe.refl _|apply qd|apply qa|apply qe|skip)
   |with_reducible first|refine And.intro ?_ ?_|intro _
  all_goals try exact clz
 ·have k:(n<y.layer)=False:=eq_false g
  rw [decide_eq_false g]
  refine acO qvm ?_
  simp (disch:=omega) only [qxy,List.replicate,enC,k,go_sem]
  repeat' first
   |((first|apply qc|apply qb);exact rvk;simp only [go_sem];first|exact VLe.refl _|apply qd|apply qa|apply qe|skip)
   |with_reducible first|refine And.intro ?_ ?_|intro _
  all_goals try exact clz
theorem qAf (L:List En) (n:Int) (k v:Nat) (h:List AObj) (hk:qA k h=some (.mem v 3 [.int .i64 n])) (hl:L.length≤1000000000):
  qm Tryz.prog 37 [qy L,.fn (.func 38) [] [.op k v 0]] h (.bool (zS (fun j=>decide (n<(L.getD j default).layer)) L.length)) h:=by
 have hc:=zJ hk
 refine qqR qvl ⟨rfl,rfl⟩ ⟨rfl,rfl⟩ (qe9 qvv L.length (fun j=>enC (L.getD j default)) (fun j=> .agg (enC (L.getD j default))) _ [] [.op k v 0] _ h (fun i _=>⟨rfl,by simp [jv,enC],rfl,rfl,rfl⟩) (fun i _=> ?_) (by omega))
 refine qm.borrow ?_ rfl
 have e:([AV.agg (enC (L.getD i default))]++ [AV.op k v 0]).map (rei (fun _=>true) h 8)= [.agg (enC (L.getD i default)),.ip [.int .i64 n]]:=by
  simp only [List.cons_append,List.nil_append,List.map_cons,List.map_nil,rei_op,if_true,hc,ipOf_some,List.drop_zero,rei_agg]
  rfl
 rw [List.nil_append,e]
 exact ly1 _ n _
theorem ly2 (names:List Str) (gs:List Gr) (t:List Str) (l:List En) (y:En) (n:Int) (h:List AObj) (hz:Szs names gs) (hv:y.vars.length≤1000000000) (hg: ∀i,(y.vars.getD i default).sigla.length≤1000000) (hm: ∀i,(gs.getD i default).mem.length≤1000):
  qm Tryz.prog 39 [.agg (enC y),.ip (zx names gs t l),.ip [.int .i64 n]] h (.bool (decide (n∈vsL names gs y))) h:=by
 have c40:=fun h=>vsR names gs y h hz hv hg hm
 have c27:=fun h=>qui (vsL names gs y) n h (by have:=qsT names gs y;omega)
 unfold enC at c40
 refine acO qx7 ?_
 simp (disch:=omega) only [qzn,List.replicate,enC,zx,go_sem]
 repeat' first
  |((first|refine cA (c40 _) ?_ ?_|refine cG (fun e=>c40 _) ?_ ?_|refine cA (c27 _) ?_ ?_|refine cG (fun e=>c27 _) ?_ ?_|refine cU (fun _=>c40 _) ?_ ?_|refine cU (fun _=>c27 _) ?_ ?_);(next=>exact flk);simp (disch:=omega) only [enC,zx,go_sem])
  |((first|apply qc|apply qb);exact rvk;simp only [go_sem];first|exact VLe.refl _|apply qd|apply qa|apply qe|skip)
  |with_reducible first|refine And.intro ?_ ?_|intro _
 all_goals try exact clz
theorem qAg (L:List En) (names:List Str) (gs:List Gr) (t:List Str) (l:List En) (n:Int) (k v k2 v2:Nat) (h:List AObj) (hk:qA k h=some (.mem v 26 (zx names gs t l))) (hk2:qA k2 h=some (.mem v2 3 [.int .i64 n])) (hl:L.length≤1000000000)
  (hz:Szs names gs) (hv: ∀j,(L.getD j default).vars.length≤1000000000) (hg: ∀j i,((L.getD j default).vars.getD i default).sigla.length≤1000000) (hm: ∀i,(gs.getD i default).mem.length≤1000):
  qm Tryz.prog 37 [qy L,.fn (.func 39) [] [.op k v 0,.op k2 v2 0]] h (.bool (zS (fun j=>decide (n∈vsL names gs (L.getD j default))) L.length)) h:=by
 have hc:=zJ hk
 have hc2:=zJ hk2
 refine qqR qvl ⟨rfl,rfl⟩ ⟨rfl,rfl⟩ (qe9 qvv L.length (fun j=>enC (L.getD j default)) (fun j=> .agg (enC (L.getD j default))) _ [] [.op k v 0,.op k2 v2 0] _ h (fun i _=>⟨rfl,by simp [jv,enC],rfl,rfl,rfl⟩) (fun i _=> ?_) (by omega))
 refine qm.borrow ?_ rfl
 have e:([AV.agg (enC (L.getD i default))]++ [AV.op k v 0,.op k2 v2 0]).map (rei (fun _=>true) h 8)= [.agg (enC (L.getD i default)),.ip (zx names gs t l),.ip [.int .i64 n]]:=by
  simp only [List.cons_append,List.nil_append,List.map_cons,List.map_nil,rei_op,if_true,hc,hc2,ipOf_some,List.drop_zero,rei_agg]
  rfl
 rw [List.nil_append,e]
 exact ly2 names gs t l _ n _ hz (hv i) (hg i) hm
theorem qwA {names:List Str} {gs:List Gr} {t:List Str} {L:List En} (h:qeJ names gs t L) {s:Nat} (hn:zS (fun j=>decide ((s:Int)∈vsL names gs (L.getD j default))) L.length=false):qio names gs t L (s:Int)=t:=by
 refine qv2 (List.length_eq_zero_iff.2 (List.filter_eq_nil_iff.2 fun e he hv=> ?_))
 have hm:=(zO L).subset he
 obtain ⟨j,hj,rfl⟩:=List.getElem_of_mem hm
 have h1:=qD.1 hn j hj
 rw [gdqA,qR hj]at h1
 have h1:=of_decide_eq_false h1
 have h2:zS (inV names gs L[j] (s:Int)) L[j].vars.length=true:=hv
 obtain ⟨k,hk,hx⟩:=qW.1 h2
 exact h1 ((qsV (h.ck _ hm)).2 k _ hk (of_decide_eq_true hx))
theorem qyI {names:List Str} {gs:List Gr} {t:List Str} {l:List En} (h:CSz names gs t l) (layer:Int):CSz names gs t (rsR names gs l layer):=by
 obtain ⟨h1,h2,h3,h4⟩:=qyP h layer
 have h5:=qsr names gs l layer
 have h6:=h.ln
 exact ⟨h.hz,h.ht,h.tn,by omega,h.nn,h.gm,fun i=>⟨by have:=h1 i;omega,by have:=h2 i;omega,
  fun j=>qaD (P:=fun e:En=> ∀j,TSz (e.vars.getD j default).words) (fun j=>⟨Nat.zero_le _,fun i=>Nat.zero_le _⟩) (fun e he=>by
   obtain ⟨e0,g1,rfl⟩:=qep he
   rw [(qch names gs l layer e0).2]
   exact qcd (P:=fun e:En=> ∀j,TSz (e.vars.getD j default).words) (fun i=>(h.he i).w) g1) i j,fun j=>by have:=h4 i j;omega⟩,h2,h4,h3,h1⟩
theorem qAL (names:List Str) (gs:List Gr) (t:List Str) (l:List En) (at0:Int) (h:List AObj) (hb:CB names gs t l) (ha:0≤at0∧at0≤255) (hp:ku SG h):qm Tryz.prog 9 [.agg (zx names gs t l),.int .u8 at0] h (.bool true) h:=by
 have c25:=fun l'=>fnP names gs t l (h++l') hb (hp.app l')
 have c11:=fun l'=>qAc (h++l') (hp.app l')
 have z5: ∀g,valL g .len [qy l]= .int .i64 l.length:=fun _=>rfl
 have z6: ∀g,okL g .len [qy l]=True:=fun _=>eq_true trivial
 unfold zx at c25
 by_cases hf:qeH names gs t l=false∧rdE names gs t l=0
 case neg=>
  have e:(!qeH names gs t l&&decide (rdE names gs t l=0))=false:=by
   cases h1:qeH names gs t l with
   |true=>rfl
   |false=>
    have: ¬rdE names gs t l=0:=fun h2=>hf ⟨h1,h2⟩
    simp [this]
  simp only [e]at c25
  refine acO qzR ?_
  simp (disch:=omega) only [c9s,List.replicate,zx,go_sem]
  repeat' first
   |((first|refine cA (c25 _) ?_ ?_|refine cG (fun e=>c25 _) ?_ ?_|refine cA (c11 _) ?_ ?_|refine cG (fun e=>c11 _) ?_ ?_|refine cU (fun _=>c25 _) ?_ ?_|refine cU (fun _=>c11 _) ?_ ?_);(next=>exact flk);simp (disch:=omega) only [zx,go_sem])
   |((first|apply qc|apply qb);exact rvk;simp only [go_sem];first|exact VLe.refl _|apply qd|apply qa|apply qe|skip)
   |with_reducible first|refine And.intro ?_ ?_|intro _
  all_goals try exact clz
 obtain ⟨hg,g⟩:=hf
 have e:(!qeH names gs t l&&decide (rdE names gs t l=0))=true:=by rw [hg,decide_eq_true g];rfl
 simp only [e]at c25
 have hc:=qdb hg
 have hln:=hc.ln
 have hnn:=hc.nn
 have hok:=qgs.1 g
 obtain ⟨a,rfl⟩: ∃a:Nat,at0=(a:Int):=⟨at0.toNat,by omega⟩
 have hmod:(a:Int)%16=((a%16:Nat):Int):=by omega
 obtain ⟨n,hn⟩: ∃n:Int,n=((a%16:Nat):Int):=⟨_,rfl⟩
 rw [←hn]at hmod
 have hrs:=qst hok
 have hR: ∀n,rsR names gs l n=rsL names gs l n l.length:=fun n=>if_pos hrs
 have c34a:=fun h=>qyQ names gs l 15 h (qsw hg)
 have c34b:=fun h=>qyQ names gs l n h (qsw hg)
 have c34c:=fun h=>qyQ names gs l (-1) h (qsw hg)
 have hcN:=qyI hc n
 simp only [hrs,hR,qwm hok (Int.le_refl 15),qss hok]at c34a c34b c34c hcN
 have hokN:=hok.layers n
 have hlayN: ∀i,i<(rsL names gs l n l.length).length→((rsL names gs l n l.length).getD i default).layer≤n:=fun i hi=>by
  rw [gdqA,qR hi]
  have hm:(rsL names gs l n l.length)[i]∈rsL names gs l n l.length:=List.getElem_mem hi
  generalize (rsL names gs l n l.length)[i]=e at hm
  rw [qeo]at hm
  obtain ⟨e0,h1,rfl⟩:=List.mem_map.1 hm
  show (jB names gs l n e0).layer≤n
  rw [(qch names gs l n e0).1]
  exact of_decide_eq_true (List.mem_filter.1 h1).2
 obtain ⟨N,hN⟩: ∃N,N=rsL names gs l n l.length:=⟨_,rfl⟩
 rw [←hN]at c34b hcN hokN hlayN
 have hNl:=hcN.ln
 have hany:zS (fun j=>decide (n<(N.getD j default).layer)) N.length=false:=qD.2 fun j hj=>decide_eq_false (by have:=hlayN j hj;omega)
 have gN:rdE names gs t N=0:=qgs.2 hokN
 have c36:=fun h=>qAR l h ⟨by omega,fun i=>by have:=hc.sp i;omega,fun i=>by have:=hc.vl i;omega,fun i j=>by have:=hc.wl i j;omega,fun i j=>by have:=hc.sg i j;omega⟩
 have c14:=fun l'=>qtv names gs t N (h++l') hcN (hp.app l')
 have e0:opE 0=0:=rfl
 have eA:qw9 names gs t N=qcs names gs t N names.length:=if_pos gN
 have hal:=qfW names gs t N names.length
 simp only [gN,e0,eA]at c14
 have c22:=fun h=>eqS t h (by have:=hc.tn;omega)
 have z1: ∀g,valL g .len [strs names]= .int .i64 names.length:=fun _=>rfl
 have z2: ∀g,okL g .len [strs names]=True:=fun _=>eq_true trivial
 have z3: ∀g,valL g .len [je (qcs names gs t N names.length)]= .int .i64 names.length:=fun g=>(show valL g .len [je (qcs names gs t N names.length)]= .int .i64 (qcs names gs t N names.length).length from rfl).trans (by rw [hal])
 have z4: ∀g,okL g .len [je (qcs names gs t N names.length)]=True:=fun _=>eq_true trivial
 have z7: ∀g,valL g .len [qy []]= .int .i64 0:=fun _=>rfl
 have z8: ∀g,okL g .len [qy []]=True:=fun _=>eq_true trivial
 have z9: ∀g,valL g .len [qy N]= .int .i64 N.length:=fun _=>rfl
 have z10: ∀g,okL g .len [qy N]=True:=fun _=>eq_true trivial
 have mz:(max (max (0:Int) 0) 0=0)=True:=eq_true rfl
 refine acO qzR ?_
 simp (disch:=omega) only [c9s,List.replicate,zx,z5,z6,hmod,go_sem]
 repeat' first
  |((first|refine cA (c25 _) ?_ ?_|refine cG (fun e=>c25 _) ?_ ?_|refine cA (c34a _) ?_ ?_|refine cG (fun e=>c34a _) ?_ ?_|refine cA (c34b _) ?_ ?_|refine cG (fun e=>c34b _) ?_ ?_|refine cA (c34c _) ?_ ?_|refine cG (fun e=>c34c _) ?_ ?_|refine cA (c36 _) ?_ ?_|refine cG (fun e=>c36 _) ?_ ?_|refine cU (fun _=>c25 _) ?_ ?_|refine cU (fun _=>c34a _) ?_ ?_|refine cU (fun _=>c34b _) ?_ ?_|refine cU (fun _=>c34c _) ?_ ?_|refine cU (fun _=>c36 _) ?_ ?_);(next=>exact flk);simp (disch:=omega) only [zx,z5,z6,z7,z8,hmod,mz,go_sem])
  |((first|apply qc|apply qb);exact rvk;simp only [go_sem];first|exact VLe.refl _|apply qd|apply qa|apply qe|skip)
  |with_reducible first|refine And.intro ?_ ?_|intro _
 all_goals try exact clz
 refine cG (fun _=>qAf N n (h.length+1) 1 _ (by simp only [go_sem]) (by omega)) (fun _=>by exact flk) ?_
 rw [hany]
 simp (disch:=omega) only [mz,z5,z6,go_sem]
 repeat' first
  |((first|apply qc|apply qb);exact rvk;simp only [go_sem];first|exact VLe.refl _|apply qd|apply qa|apply qe|skip)
  |with_reducible first|refine And.intro ?_ ?_|intro _
 all_goals try exact clz
 refine qn (T:=fun s:Nat×AObj=>qI 141 [(2,.op h.length 1 0),(5,.op (h.length+1) 1 0),(8,qy N),(12,.int .i64 (rsL names gs l n s.1).length),(80,qy l),(81,.int .i64 l.length),(82,.int .i64 s.1)])
  (H:=fun s=>h++ [.mem 1 26 (zx names gs t l),.mem 1 3 [.int .i64 n],s.2,.emp 0])
  (inv:=fun s=>s.1≤l.length∧qH [s.2] 0=true) (m:=fun s=>l.length-s.1) (0,.emp 0) ⟨Nat.zero_le _,rfl⟩ (Wk.temps ?_) ?_
 ·(simp only [List.replicate,rsL,List.length_nil,go_sem,qj,qh,qg,qi];try (repeat' first|(with_reducible refine And.intro ?_ ?_)|(apply qd;omega)|(apply qa;rfl)|exact VLe.refl _))
 rintro ⟨i,O14⟩ ⟨i1,p14⟩ K hK
 simp only at i1 p14 hK
 have p14': ∀m,qH (O14::m) 0=true:=fun _=>p14
 by_cases hi:i<l.length
 ·have r1:((i:Int)<l.length)=True:=eq_true (by omega)
  have hst:rsL names gs l n (i+1)=rsL names gs l n i++if (l.getD i default).layer≤n then [jB names gs l n (l.getD i default)] else []:=rfl
  have hll:=qfi names gs l n i
  obtain ⟨L,hL⟩: ∃L,L=rsL names gs l n i:=⟨_,rfl⟩
  have eL:=hL.symm
  rw [eL]at hst hll
  obtain ⟨x,hx⟩: ∃x,x=l.getD i default:=⟨_,rfl⟩
  have ex:=hx.symm
  rw [ex]at hst
  by_cases a1:x.layer≤n
  ·have q1:(x.layer≤n)=True:=eq_true a1
   rw [if_pos a1]at hst
   simp (disch:=omega) only [List.replicate,zx,qy,enC,r1,ex,eL,p14',go_sem]
   repeat' first
    |((first|apply qc|apply qb);exact rvk;simp only [go_sem];first|exact VLe.refl _|apply qd|apply qa|apply qe|skip)
    |with_reducible first|refine And.intro ?_ ?_|intro _
   all_goals try exact clz
   refine hK _ _ (i+1,.mem (qv (some O14)+1) 49 (enC x)) ⟨hi,rfl⟩ (by simp only;omega) ?_
   simp only [hst,List.length_append,List.length_cons,List.length_nil]
   refine Wk.temps ?_
   (simp only [qy,List.replicate,go_sem,qj,qh,qg,qi];try (repeat' first|(with_reducible refine And.intro ?_ ?_)|(apply qd;omega)|(apply qa;rfl)|exact VLe.refl _))
  ·have q1:(x.layer≤n)=False:=eq_false a1
   rw [if_neg a1,List.append_nil]at hst
   simp (disch:=omega) only [List.replicate,zx,qy,enC,r1,ex,eL,p14',go_sem]
   repeat' first
    |((first|apply qc|apply qb);exact rvk;simp only [go_sem];first|exact VLe.refl _|apply qd|apply qa|apply qe|skip)
    |with_reducible first|refine And.intro ?_ ?_|intro _
   all_goals try exact clz
   refine hK _ _ (i+1,.mem (qv (some O14)+1) 49 (enC x)) ⟨hi,rfl⟩ (by simp only;omega) ?_
   simp only [hst]
   refine Wk.temps ?_
   (simp only [qy,List.replicate,go_sem,qj,qh,qg,qi];try (repeat' first|(with_reducible refine And.intro ?_ ?_)|(apply qd;omega)|(apply qa;rfl)|exact VLe.refl _))
 obtain rfl:i=l.length:=by omega
 have r1:((l.length:Int)<l.length)=False:=eq_false (by omega)
 clear hK
 rw [←hN]
 simp (disch:=omega) only [List.replicate,zx,r1,z1,z2,z3,z4,z9,z10,go_sem]
 repeat' first
  |((first|refine cA (c14 _) ?_ ?_|refine cG (fun e=>c14 _) ?_ ?_|refine cU (fun _=>c14 _) ?_ ?_);(next=>exact flk);simp (disch:=omega) only [zx,r1,z1,z2,z3,z4,z9,z10,go_sem])
  |((first|apply qc|apply qb);exact rvk;simp only [go_sem];first|exact VLe.refl _|apply qd|apply qa|apply qe|skip)
  |with_reducible first|refine And.intro ?_ ?_|intro _
 all_goals try exact clz
 refine qn (T:=fun s:Nat×AObj=>qI 141 [(2,.op h.length 1 0),(8,qy N),(15,je (qcs names gs t N names.length)),(120,.int .i64 names.length),(121,.int .i64 s.1)])
  (H:=fun s=>h++ [.mem 1 26 (zx names gs t l),.mem 1 3 [.int .i64 n],O14,s.2])
  (inv:=fun s=>s.1≤names.length∧qH [s.2] 0=true) (m:=fun s=>names.length-s.1) (0,.emp 0) ⟨Nat.zero_le _,rfl⟩ (Wk.temps ?_) ?_
 ·(simp only [List.replicate,go_sem,qj,qh,qg,qi];try (repeat' first|(with_reducible refine And.intro ?_ ?_)|(apply qd;omega)|(apply qa;rfl)|exact VLe.refl _))
 rintro ⟨i,O17⟩ ⟨i1,p17⟩ K hK
 simp only at i1 p17 hK
 have p17': ∀m,qH (O17::m) 0=true:=fun _=>p17
 by_cases hi:i<names.length
 ·have r1:((i:Int)<names.length)=True:=eq_true (by omega)
  have c37:=fun h hk hk2=>qAg N names gs t l (i:Int) (List.length h) 1 (List.length h+3) (qv (some O17)+1) (h++ [.mem 1 26 (zx names gs t l),.mem 1 3 [.int .i64 n],O14,.mem (qv (some O17)+1) 3 [.int .i64 (i:Int)]]) hk hk2 (by omega) hc.hz (fun j=>by have:=hcN.vl j;omega) (fun j k=>by have:=hcN.sg j k;omega) hc.gm
  have c37:=c37 h (by simp only [go_sem]) (by simp only [go_sem])
  unfold zx at c37
  have hax:(qcs names gs t N names.length).getD i []=qio names gs t N (i:Int):=qmQ hi
  have zt:je (qcs names gs t N names.length)= .sl names.length fun i=> [strs ((qcs names gs t N names.length).getD i [])]:=by
   show AV.sl (qcs names gs t N names.length).length _=_
   rw [hal]
  have hun:=qwA (s:=i) hokN
  cases hb:zS (fun j=>decide ((i:Int)∈vsL names gs (N.getD j default))) N.length with
  |true=>
   rw [hb]at c37
   simp (disch:=omega) only [List.replicate,zx,r1,p17',go_sem]
   repeat' first
    |(refine qo (.bool true) ?_;simp (disch:=omega) only [zx,r1,p17',zt,go_sem])
    |((first|refine cA (c37) ?_ ?_|refine cG (fun e=>c37) ?_ ?_);(next=>exact flk);simp (disch:=omega) only [zx,r1,p17',zt,go_sem])
    |((first|apply qc|apply qb);exact rvk;simp only [go_sem];first|exact VLe.refl _|apply qd|apply qa|apply qe|skip)
    |with_reducible first|refine And.intro ?_ ?_|intro _
   all_goals try exact clz
   refine hK _ _ (i+1,.mem (qv (some O17)+1) 3 [.int .i64 (i:Int)]) ⟨hi,rfl⟩ (by simp only;omega) (Wk.temps ?_)
   (simp only [List.replicate,zt,go_sem,qj,qh,qg,qi];try (repeat' first|(with_reducible refine And.intro ?_ ?_)|(apply qd;omega)|(apply qa;rfl)|exact VLe.refl _))
  |false=>
   rw [hb]at c37
   rw [hun hb]at hax
   simp (disch:=omega) only [List.replicate,zx,r1,p17',go_sem]
   repeat' first
    |((first|refine cA (c37) ?_ ?_|refine cG (fun e=>c37) ?_ ?_|refine cA (c22 _) ?_ ?_|refine cG (fun e=>c22 _) ?_ ?_|refine cU (fun _=>c22 _) ?_ ?_);(next=>exact flk);simp (disch:=omega) only [zx,r1,p17',zt,hax,go_sem])
    |((first|apply qc|apply qb);exact rvk;simp only [go_sem];first|exact VLe.refl _|apply qd|apply qa|apply qe|skip)
    |with_reducible first|refine And.intro ?_ ?_|intro _
   all_goals try exact clz
   refine hK _ _ (i+1,.mem (qv (some O17)+1) 3 [.int .i64 (i:Int)]) ⟨hi,rfl⟩ (by simp only;omega) (Wk.temps ?_)
   (simp only [List.replicate,zt,go_sem,qj,qh,qg,qi];try (repeat' first|(with_reducible refine And.intro ?_ ?_)|(apply qd;omega)|(apply qa;rfl)|exact VLe.refl _))
 ·obtain rfl:i=names.length:=by omega
  have r1:((names.length:Int)<names.length)=False:=eq_false (by omega)
  simp (disch:=omega) only [List.replicate,r1,go_sem]
  repeat' first
   |((first|refine cA (c11 _) ?_ ?_|refine cG (fun e=>c11 _) ?_ ?_|refine cU (fun _=>c11 _) ?_ ?_);(next=>exact flk);simp (disch:=omega) only [r1,go_sem])
   |((first|apply qc|apply qb);exact rvk;simp only [go_sem];first|exact VLe.refl _|apply qd|apply qa|apply qe|skip)
   |with_reducible first|refine And.intro ?_ ?_|intro _
  all_goals try exact clz
end RC
end
section
open Go Go.Proofs AF HY Go.ChangeShapes Go.RowKit
namespace LN
theorem qyB : Tryz.prog.globalNamed "internal/strconv.uint64pow10" = some 3 := by kernel_rfl
theorem qyD : Tryz.prog.globalNamed "strconv.ErrSyntax" = some 1 := by kernel_rfl
theorem qyC : Tryz.prog.globalNamed "strconv.ErrRange" = some 2 := by kernel_rfl
theorem qoy {w w':World} (h:qpE w) (e:w'.heap[3]? =w.heap[3]?):qpE w':=by
 unfold qpE Lib.TabIs at*
 rw [qdw qyB e]
 exact h
theorem qfw : "*" ++ "errors.errorString" = "*errors.errorString" := by decide
theorem qqe (u : TypeId) (h : Tryz.prog.typeName? 3 u = some "*errors.errorString") : u = 227 :=
 typeName_ptr_named (nm := "errors.errorString") (by rw [qfw]; kernel_rfl) (by kernel_rfl) (by decide) u (by rw [qfw]; exact h)
def qdq:List Nat:= [3,1,2]
def qxh (w:World):Prop:=qpE w∧qtr w
theorem qwx {W:World} (h:laidMet Tryz.prog YthlgfjbghnildaaGreatDoor.Rows.reconstructReadsRow.laid W):qpE W∧qtr W:=by
 have h2:=laidMet.tail (laidMet.tail h)
 have h3:=laidMet.tail h2
 have h4:=laidMet.tail h3
 obtain ⟨a,s,e1,_⟩:=laid_sentinel (g:=2) (ti:=197) (tp:=227) (te:=229) (ts:=9) h3 qyC (by kernel_rfl) Tryz.underlying197 qqe Tryz.underlying227 Tryz.underlying229 rfl rfl Tryz.underlying9 (by kernel_rfl) (by kernel_rfl)
 obtain ⟨b,t,e2,_⟩:=laid_sentinel (g:=1) (ti:=197) (tp:=227) (te:=229) (ts:=9) h4 qyD (by kernel_rfl) Tryz.underlying197 qqe Tryz.underlying227 Tryz.underlying229 rfl rfl Tryz.underlying9 (by kernel_rfl) (by kernel_rfl)
 exact ⟨Lib.tabIs_of_head (t:=231) (e:=122) (n:=20) qyB (by kernel_rfl) Tryz.underlying231 Tryz.underlying122 (by kernel_rfl) (by kernel_rfl) h2,⟨_,_,e2⟩,_,_,e1⟩
theorem qoS {W:World} (h:laidMet Tryz.prog YthlgfjbghnildaaGreatDoor.Rows.reconstructReadsRow.laid W): ∀b,b∈qdq→ ∃arr T fz,W.heap[b]? =some (.cells arr T fz):=by
 intro b hb
 obtain ⟨h1,⟨_,_,h2⟩,_,_,h3⟩:=qwx h
 have e:b=3∨b=1∨b=2:=by simpa [qdq] using hb
 rcases e with rfl|rfl|rfl
 ·exact qcp qyB h1
 ·exact qcp qyD h2
 ·exact qcp qyC h3
theorem qsC {W:World} (h:laidMet Tryz.prog YthlgfjbghnildaaGreatDoor.Rows.reconstructReadsRow.laid W): ∀w':World,(∀b,b∈qdq→w'.heap[b]? =W.heap[b]?)→qxh w':=by
 intro w' hs
 obtain ⟨h1,⟨t1,p1,h2⟩,t2,p2,h3⟩:=qwx h
 refine ⟨qoy h1 (hs 3 (by simp [qdq])),⟨t1,p1,?_⟩,t2,p2,?_⟩
 ·rw [qdw qyD (hs 1 (by simp [qdq]))];exact h2
 ·rw [qdw qyC (hs 2 (by simp [qdq]))];exact h3
theorem qsB:ku RC.SG [.pin qdq qxh]:=⟨0,_,_,rfl,fun _ h=>h⟩
end LN
end
