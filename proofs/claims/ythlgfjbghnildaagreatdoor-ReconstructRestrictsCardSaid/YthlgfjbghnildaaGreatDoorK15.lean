import Derived.Test.YthlgfjbghnildaaGreatDoorK14
import Derived.Test.YthlgfjbghnildaaGreatDoorK11
import Derived.Test.YthlgfjbghnildaaGreatDoorK1
import Derived.Test.YthlgfjbghnildaaGreatDoorK3
import Derived.Test.YthlgfjbghnildaaGreatDoorK6
import Derived.Test.YthlgfjbghnildaaGreatDoorProg
import Derived.Test.YthlgfjbghnildaaGreatDoorRows
import Derived.LaidLaws
set_option linter.all false
set_option linter.unusedSimpArgs false
set_option linter.unusedVariables false
set_option linter.unusedSectionVars false
set_option maxRecDepth 100000
section
open Go Go.Proofs AF HY LN
namespace RC
set_option maxHeartbeats 16000000
def qjo (f:Nat→AV) (n:Nat):List AV:=(List.range n).map f
theorem qdJ (f:Nat→AV) (n:Nat):qjo f (n+1)=qjo f n++ [f n]:=by unfold qjo;rw [List.range_succ,List.map_append];rfl
theorem qfM (f:Nat→AV) (n:Nat):(qjo f n).length=n:=by simp [qjo]
def vsF (names:List Str) (gs:List Gr) (l:List En) (i:Nat):AV:=ql (vsL names gs (l.getD i default))
def spF (names:List Str) (gs:List Gr) (l:List En) (i:Nat):AV:=ql (zI names gs (l.getD i default).sup)
theorem qj7 {n:Nat} {L M:List Int} (g:AV→AV) (hg: ∀s,g (.int .i64 s)= .int .i64 s) (hn:n=L.length):VLe (.sl n fun i=>(((qn (L++M)).drop i).take 1).map g) (ql L):=by
 subst hn
 refine VLe.sl_eq rfl fun i hi=> ?_
 rw [qG,List.drop_append_of_le_length (by rw [qt];omega),List.take_append_of_le_length (by rw [List.length_drop,qt];omega)]
 unfold qn
 rw [←List.map_drop,List.drop_eq_getElem_cons hi,List.map_cons,List.take_succ_cons,List.take_zero,List.map_cons,List.map_nil,hg,gdqA,q9 hi]
 rfl
theorem qlj {v n d:Nat} {L:List En} {fz:Nat→Bool} {h:List AObj} (hn:n=L.length):VLe (qdr (some (zp v 49 (zA L))) v 6 0 n (rei fz h (d+1))) (qz L):=by
 subst hn
 by_cases e:L= []
 ·subst e
  show VLe (qdr (some (.emp v)) v 6 0 0 _) _
  rw [slOf_emp,if_pos rfl]
  exact zQ
 ·have e0:zp v 49 (zA L)= .mem v 49 (zA L):=jj (fun c=>e (by
   have:=congrArg List.length c
   rw [zV,List.length_nil]at this
   exact List.eq_nil_of_length_eq_zero (by omega)))
  rw [e0]
  exact qgg rfl
theorem kS {k v z p n:Nat} (L:List Int):qab (.osl k v z p n) (ql L)=true:=rfl
theorem qdf (h:List AObj) (V:List Int):qr h (ql V)=some (V.length,qn V):=by
 show some (V.length,(List.range V.length).flatMap fun i=> [AV.int .i64 (V.getD i 0)])=_
 rw [qfS (fun i=>AV.int .i64 (V.getD i 0))]
 congr 2
 unfold qn
 refine List.ext_getElem (by simp) fun i g1 g2=> ?_
 have hi:i<V.length:=by simpa using g1
 simp [gdqA,hi]
structure RZ (names:List Str) (gs:List Gr) (l:List En):Prop where
 hz:Szs names gs
 hl:l.length≤1000
 vl: ∀i,(l.getD i default).vars.length≤1000000
 sg: ∀i j,((l.getD i default).vars.getD j default).sigla.length≤1000000
 sp: ∀i,(l.getD i default).sup.length≤1000000
 s8:sgE names gs=0→names.length≤8∧gs.length≤8
theorem qz5 (names:List Str) (gs:List Gr) (l:List En) (layer:Int) (h:List AObj) (hc:RZ names gs l):
  qm Tryz.prog 34 [strs names,qv gs,qz l,.int .i64 layer] h (.tup [qz (rsR names gs l layer),.int .i64 (rsE names gs l)]) h:=by
 have c59:=fun h=>sgP names gs h hc.hz
 have hln:=hc.hl
 obtain ⟨R,hR⟩: ∃R,R=rsE names gs l:=⟨_,rfl⟩
 have hLR:rsR names gs l layer=if R=0 then rsL names gs l layer l.length else []:=by rw [hR];rfl
 rw [hLR,←hR]
 unfold rsE at hR
 have nl0:VLe AV.nl (qz []):=zQ
 have h8:=hc.s8
 obtain ⟨s,hs⟩: ∃s,s=sgE names gs:=⟨_,rfl⟩
 rw [←hs]at c59 hR h8
 by_cases g0:s≠0
 ·have k0:(s=0)=False:=eq_false g0
  rw [if_pos g0]at hR
  rw [hR,if_neg (by decide)]
  refine acO quS ?_
  simp (disch:=omega) only [qwR,List.replicate,go_sem]
  repeat' first
   |((first|refine cA (c59 _) ?_ ?_|refine cG (fun e=>c59 _) ?_ ?_|refine cU (fun _=>c59 _) ?_ ?_);(next=>exact flk);simp (disch:=omega) only [k0,go_sem])
   |((first|apply qc|apply qb);exact rvk;simp only [go_sem];first|exact VLe.refl _|apply qd|apply qa|apply qe|skip)
   |with_reducible first|refine And.intro ?_ ?_|intro _
  all_goals try exact clz
  exact qK ⟨nl0,VLe.refl _,trivial⟩
 have g0:s=0:=Classical.not_not.1 g0
 have k0:(s=0)=True:=eq_true g0
 obtain ⟨n8,g8⟩:=h8 g0
 rw [if_neg (fun hc=>hc g0),if_neg (by omega)]at hR
 have k1:((4096:Int)<l.length)=False:=eq_false (by omega)
 refine acO quS ?_
 simp (disch:=omega) only [qwR,List.replicate,qz,go_sem]
 repeat' first
  |((first|refine cA (c59 _) ?_ ?_|refine cG (fun e=>c59 _) ?_ ?_|refine cU (fun _=>c59 _) ?_ ?_);(next=>exact flk);simp (disch:=omega) only [k0,k1,qz,go_sem])
  |((first|apply qc|apply qb);exact rvk;simp only [go_sem];first|exact VLe.refl _|apply qd|apply qa|apply qe|skip)
  |with_reducible first|refine And.intro ?_ ?_|intro _
 all_goals try exact clz
 refine qo (T:=fun s:Nat×Nat×Nat×AObj×AObj×AObj=>qI 143 [(0,strs names),(1,qv gs),(2,qz l),(3,.int .i64 layer),(10,.osl (h.length+1) s.2.1 1 0 s.1),(11,.osl (h.length+2) s.2.2.1 1 0 s.1),(32,qz l),(33,.int .i64 l.length),(34,.int .i64 s.1)])
  (H:=fun s=>h++ [.emp 1,zp s.2.1 37 (qjo (vsF names gs l) s.1),zp s.2.2.1 37 (qjo (spF names gs l) s.1),s.2.2.2.1,s.2.2.2.2.1,.emp 0,s.2.2.2.2.2,.emp 0,.emp 0,.emp 0,.emp 0,.emp 0,.emp 0,.emp 0,.emp 0,.emp 0])
  (inv:=fun s=>s.1≤l.length∧qD [s.2.2.2.1] 0=true∧qD [s.2.2.2.2.1] 0=true∧qD [s.2.2.2.2.2] 0=true∧ ∀k,k<s.1→qor names gs l k=0) (m:=fun s=>l.length-s.1) (0,1,1,.emp 0,.emp 0,.emp 0) ⟨Nat.zero_le _,rfl,rfl,rfl,fun j hj=>absurd hj (Nat.not_lt_zero j)⟩ (Wk.temps ?_) ?_
 ·(simp only [qz,List.replicate,go_sem,qj,qh,qg,qi];try (repeat' first|(with_reducible refine And.intro ?_ ?_)|(apply qd;omega)|(apply qa;rfl)|exact VLe.refl _))
 rintro ⟨i,v1,v2,O3,O4,O6⟩ ⟨i1,p3,p4,p6,i2⟩ K hK
 simp only at i1 p3 p4 p6 i2 hK
 have p3': ∀m,qD (O3::m) 0=true:=fun _=>p3
 have p4': ∀m,qD (O4::m) 0=true:=fun _=>p4
 have p6': ∀m,qD (O6::m) 0=true:=fun _=>p6
 by_cases hi:i<l.length
 ·have r1:((i:Int)<l.length)=True:=eq_true (by omega)
  have hE:=qU (f:=qor names gs l) hi i2
  have hat:qor names gs l i=if vsE names gs (l.getD i default)≠0 then vsE names gs (l.getD i default) else jR names gs (l.getD i default).sup:=rfl
  have c60:=fun h=>vsP names gs (l.getD i default) h hc.hz (by have:=hc.vl i;omega) (fun j=>by have:=hc.sg i j;omega)
  have c62:=fun h=>qxl names gs (l.getD i default).sup h hc.hz (by have:=hc.sp i;omega)
  have f1:vsF names gs l i=ql (vsL names gs (l.getD i default)):=rfl
  have f2:spF names gs l i=ql (zI names gs (l.getD i default).sup):=rfl
  have h1:=qdJ (vsF names gs l) i
  have h2:=qdJ (spF names gs l) i
  have l1:=qfM (vsF names gs l) i
  have l2:=qfM (spF names gs l) i
  obtain ⟨A,hA⟩: ∃A,A=qjo (vsF names gs l) i:=⟨_,rfl⟩
  obtain ⟨B,hB⟩: ∃B,B=qjo (spF names gs l) i:=⟨_,rfl⟩
  have eA:=hA.symm
  have eB:=hB.symm
  rw [eA]at h1 l1
  rw [eB]at h2 l2
  rw [f1]at h1
  rw [f2]at h2
  obtain ⟨x,hx⟩: ∃x,x=l.getD i default:=⟨_,rfl⟩
  have ex:=hx.symm
  rw [ex]at hat h1 h2
  simp only [ex]at c60 c62
  obtain ⟨y,hy⟩: ∃y,y=vsE names gs x:=⟨_,rfl⟩
  obtain ⟨z,hz⟩: ∃z,z=jR names gs x.sup:=⟨_,rfl⟩
  obtain ⟨V,hV⟩: ∃V,V=vsL names gs x:=⟨_,rfl⟩
  obtain ⟨W,hW⟩: ∃W,W=zI names gs x.sup:=⟨_,rfl⟩
  rw [←hy,←hz]at hat
  rw [←hV]at h1
  rw [←hW]at h2
  rw [←hV,←hy]at c60
  rw [←hW,←hz]at c62
  unfold enC at c60
  have t1:List.take i A=A:=List.take_of_length_le (by omega)
  have t2:List.take i B=B:=List.take_of_length_le (by omega)
  by_cases a1:y≠0
  ·have q1:(y=0)=False:=eq_false a1
   rw [if_pos a1]at hat
   rw [hE (by rw [hat];exact a1),hat]at hR
   rw [hR,if_neg a1]
   simp (disch:=omega) only [List.replicate,qz,enC,r1,ex,eA,eB,p3',p4',p6',go_sem]
   repeat' first
    |((first|refine cA (c60 _) ?_ ?_|refine cG (fun e=>c60 _) ?_ ?_|refine cU (fun _=>c60 _) ?_ ?_);(next=>exact flk);simp (disch:=omega) only [qz,enC,r1,ex,eA,eB,p3',p4',p6',q1,go_sem])
    |((first|apply qc|apply qb);exact rvk;simp only [go_sem];first|exact VLe.refl _|apply qd|apply qa|apply qe|skip)
    |with_reducible first|refine And.intro ?_ ?_|intro _
   all_goals try exact clz
   exact qK ⟨nl0,VLe.refl _,trivial⟩
  have a1:y=0:=Classical.not_not.1 a1
  have q1:(y=0)=True:=eq_true a1
  rw [if_neg (fun hc=>hc a1)]at hat
  by_cases a2:z≠0
  ·have q2:(z=0)=False:=eq_false a2
   rw [hE (by rw [hat];exact a2),hat]at hR
   rw [hR,if_neg a2]
   simp (disch:=omega) only [List.replicate,qz,enC,r1,ex,eA,eB,p3',p4',p6',go_sem]
   repeat' first
    |((first|refine cA (c60 _) ?_ ?_|refine cG (fun e=>c60 _) ?_ ?_|refine cA (c62 _) ?_ ?_|refine cG (fun e=>c62 _) ?_ ?_|refine cU (fun _=>c60 _) ?_ ?_|refine cU (fun _=>c62 _) ?_ ?_);(next=>exact flk);simp (disch:=omega) only [qz,enC,r1,ex,eA,eB,p3',p4',p6',q1,q2,go_sem])
    |((first|apply qc|apply qb);exact rvk;simp only [go_sem];first|exact VLe.refl _|apply qd|apply qa|apply qe|skip)
    |with_reducible first|refine And.intro ?_ ?_|intro _
   all_goals try exact clz
   exact qK ⟨nl0,VLe.refl _,trivial⟩
  have a2:z=0:=Classical.not_not.1 a2
  have q2:(z=0)=True:=eq_true a2
  rw [a2]at hat
  simp (disch:=omega) only [List.replicate,qz,enC,r1,ex,eA,eB,p3',p4',p6',Nat.mul_one,go_sem]
  repeat' first
   |((first|refine cA (c60 _) ?_ ?_|refine cG (fun e=>c60 _) ?_ ?_|refine cA (c62 _) ?_ ?_|refine cG (fun e=>c62 _) ?_ ?_|refine cU (fun _=>c60 _) ?_ ?_|refine cU (fun _=>c62 _) ?_ ?_);(next=>exact flk);simp (disch:=omega) only [qz,enC,r1,ex,eA,eB,p3',p4',p6',q1,q2,l1,l2,t1,t2,Nat.mul_one,go_sem])
   |((first|apply qc|apply qb);exact rvk;simp only [go_sem];first|exact VLe.refl _|apply qd|apply qa|apply qe|skip)
   |with_reducible first|refine And.intro ?_ ?_|intro _
  all_goals try exact clz
  try rw [t1]
  try rw [t2]
  rw [←h1,←h2]
  refine hK _ _ (i+1,v1+1,v2+1,.mem (qs (some O3)+1) 49 (enC x),.mem (qs (some O4)+1) 37 [ql V],.mem (qs (some O6)+1) 37 [ql W]) ⟨hi,rfl,rfl,rfl,fun k hk=> ?_⟩ (by simp only;omega) (Wk.temps ?_)
  ·by_cases e':k=i
   ·subst e';exact hat
   ·exact i2 k (by simp only at hk;omega)
  (simp only [qz,List.replicate,go_sem,qj,qh,qg,qi];try (repeat' first|(with_reducible refine And.intro ?_ ?_)|(apply qd;omega)|(apply qa;rfl)|exact VLe.refl _))
 obtain rfl:i=l.length:=by omega
 have r1:((l.length:Int)<l.length)=False:=eq_false (by omega)
 rw [qE (f:=qor names gs l) i2]at hR
 rw [hR,if_pos rfl]
 clear hK
 have zl1: ∀g,valL g .len [qz l]= .int .i64 l.length:=fun _=>rfl
 have zl2: ∀g,okL g .len [qz l]=True:=fun _=>eq_true trivial
 simp (disch:=omega) only [List.replicate,r1,zl1,zl2,go_sem]
 repeat' first
  |((first|apply qc|apply qb);exact rvk;simp only [go_sem];first|exact VLe.refl _|apply qd|apply qa|apply qe|skip)
  |with_reducible first|refine And.intro ?_ ?_|intro _
 all_goals try exact clz
 have zF1: ∀k,vsF names gs l k=ql (vsL names gs (l.getD k default)):=fun _=>rfl
 have zF2: ∀k,spF names gs l k=ql (zI names gs (l.getD k default).sup):=fun _=>rfl
 obtain ⟨F1,hF1⟩: ∃F,F=vsF names gs l:=⟨_,rfl⟩
 obtain ⟨F2,hF2⟩: ∃F,F=spF names gs l:=⟨_,rfl⟩
 rw [←hF1]at zF1
 rw [←hF2]at zF2
 simp only [←hF1,←hF2]
 refine qo (T:=fun s:Nat×Nat×AObj×AObj×AObj×AObj=>qI 143 [(0,strs names),(1,qv gs),(2,qz l),(3,.int .i64 layer),(10,.sl l.length fun k=> [F1 k]),(11,.sl l.length fun k=> [F2 k]),(17,.osl (h.length+8) s.2.1 6 0 (rsL names gs l layer s.1).length),(68,qz l),(69,.int .i64 l.length),(70,.int .i64 s.1)])
  (H:=fun s=>h++ [.emp 1,.emp (v1+1),.emp (v2+1),O3,O4,.emp 0,O6,.emp 0,zp s.2.1 49 (zA (rsL names gs l layer s.1)),s.2.2.1,s.2.2.2.1,s.2.2.2.2.1,.emp 0,.emp 0,s.2.2.2.2.2,.emp 0])
  (inv:=fun s=>s.1≤l.length∧qD [s.2.2.1] 0=true∧qD [s.2.2.2.1] 0=true∧qD [s.2.2.2.2.1] 0=true∧qD [s.2.2.2.2.2] 0=true) (m:=fun s=>l.length-s.1) (0,1,.emp 0,.emp 0,.emp 0,.emp 0) ⟨Nat.zero_le _,rfl,rfl,rfl,rfl⟩ (Wk.trans (Wk.freeze [h.length+1,h.length+2] (by simp only [zN,go_sem])) ?_) ?_
 ·simp only [kK,List.map,go_sem]
  refine Wk.temps ?_
  (simp only [qz,List.replicate,rsL,go_sem,qj,qh,qg,qi];try (repeat' first|(with_reducible refine And.intro ?_ ?_)|(apply qd;omega)|(apply qa;rfl)|exact VLe.refl _))
  ·rw [if_pos (by simp),if_pos (by simp)]
   unfold qjo
   exact qbJ (fun k=>by rw [zF1];rfl) rfl
  ·rw [if_pos (by simp),if_pos (by simp)]
   unfold qjo
   exact qbJ (fun k=>by rw [zF2];rfl) rfl
  ·rw [if_neg (by simp)]
   exact VLe.refl _
 rintro ⟨i,w,O9,O10,O11,O14⟩ ⟨i1,p9,p10,p11,p14⟩ K hK
 simp only at i1 p9 p10 p11 p14 hK
 have p9': ∀m,qD (O9::m) 0=true:=fun _=>p9
 have p10': ∀m,qD (O10::m) 0=true:=fun _=>p10
 have p11': ∀m,qD (O11::m) 0=true:=fun _=>p11
 have p14': ∀m,qD (O14::m) 0=true:=fun _=>p14
 by_cases hi:i<l.length
 ·have r1:((i:Int)<l.length)=True:=eq_true (by omega)
  have r2:(i<l.length)=True:=eq_true hi
  have hst:rsL names gs l layer (i+1)=rsL names gs l layer i++if (l.getD i default).layer≤layer then [j8 names gs l layer (l.getD i default)] else []:=rfl
  have f2:=zF2 i
  have hmn:=qc3 names gs l layer (l.getD i default) l.length
  have hLn:=qe3 names gs l layer i
  obtain ⟨L,hL⟩: ∃L,L=rsL names gs l layer i:=⟨_,rfl⟩
  have eL:=hL.symm
  rw [eL]at hst hLn
  have eC:=zV L
  have eTk:List.take (L.length*6) (zA L)=zA L:=List.take_of_length_le (by rw [zV];omega)
  obtain ⟨x,hx⟩: ∃x,x=l.getD i default:=⟨_,rfl⟩
  have ex:=hx.symm
  rw [ex]at hst f2 hmn
  have hwl:=qaj (names:=names) (gs:=gs) (sg:=x.sup)
  obtain ⟨W,hW⟩: ∃W,W=zI names gs x.sup:=⟨_,rfl⟩
  rw [←hW]at f2 hwl
  by_cases a1:layer<x.layer
  ·have q1:(layer<x.layer)=True:=eq_true a1
   rw [if_neg (by omega),List.append_nil]at hst
   simp (disch:=omega) only [List.replicate,qz,enC,r1,ex,eL,p9',p10',p11',p14',go_sem]
   repeat' first
    |((first|apply qc|apply qb);exact rvk;simp only [go_sem];first|exact VLe.refl _|apply qd|apply qa|apply qe|skip)
    |with_reducible first|refine And.intro ?_ ?_|intro _
   all_goals try exact clz
   refine hK _ _ (i+1,w,.mem (qs (some O9)+1) 49 (enC x),O10,O11,O14) ⟨hi,rfl,p10,p11,p14⟩ (by simp only;omega) ?_
   simp only [hst]
   refine Wk.temps ?_
   (simp only [qz,List.replicate,go_sem,qj,qh,qg,qi];try (repeat' first|(with_reducible refine And.intro ?_ ?_)|(apply qd;omega)|(apply qa;rfl)|exact VLe.refl _))
  have q1:(layer<x.layer)=False:=eq_false a1
  rw [if_pos (by omega)]at hst
  cases hpos:x.pos with
  |false=>
   have h1:j8 names gs l layer x=x:=if_neg (by rw [hpos];simp)
   rw [h1]at hst
   simp (disch:=omega) only [List.replicate,qz,enC,r1,ex,eL,p9',p10',p11',p14',hpos,go_sem]
   repeat' first
    |((first|apply qc|apply qb);exact rvk;simp only [go_sem];first|exact VLe.refl _|apply qd|apply qa|apply qe|skip)
    |with_reducible first|refine And.intro ?_ ?_|intro _
   all_goals try exact clz
   rw [eTk]
   refine hK _ _ (i+1,w+1,.mem (qs (some O9)+1) 49 (enC x),O10,O11,.mem (qs (some O14)+1) 49 (enC x)) ⟨hi,rfl,p10,p11,rfl⟩ (by simp only;omega) ?_
   have eA:zA (L++ [x])=zA L++enC x:=by rw [ju];simp [zA]
   simp only [hst,eA,List.length_append,List.length_cons,List.length_nil]
   unfold enC
   rw [hpos]
   refine Wk.temps ?_
   (simp only [qz,List.replicate,enC,go_sem,qj,qh,qg,qi];try (repeat' first|(with_reducible refine And.intro ?_ ?_)|(apply qd;omega)|(apply qa;rfl)|exact VLe.refl _))
  |true=>
  simp (disch:=omega) only [List.replicate,qz,enC,r1,ex,eL,p9',p10',p11',p14',hpos,go_sem]
  repeat' first
   |((first|apply qc|apply qb);exact rvk;simp only [go_sem];first|exact VLe.refl _|apply qd|apply qa|apply qe|skip)
   |with_reducible first|refine And.intro ?_ ?_|intro _
  all_goals try exact clz
  refine qo (T:=fun s:Nat×Nat×AObj=>qI 143 [(0,strs names),(1,qv gs),(2,qz l),(3,.int .i64 layer),(10,.sl l.length fun k=> [F1 k]),(11,.sl l.length fun k=> [F2 k]),(17,.osl (h.length+8) w 6 0 L.length),(18,.int .i64 i),(19,.op (h.length+9) (qs (some O9)+1) 0),(20,.osl (h.length+10) s.2.1 1 0 (mrL names gs l layer x s.1).length),(68,qz l),(69,.int .i64 l.length),(70,.int .i64 i),(81,qz l),(82,.int .i64 l.length),(83,.int .i64 s.1)])
   (H:=fun s=>h++ [.emp 1,.emp (v1+1),.emp (v2+1),O3,O4,.emp 0,O6,.emp 0,zp w 49 (zA L),.mem (qs (some O9)+1) 49 [.int .i64 x.layer,.int .i64 x.frm,.int .i64 x.to,.bool true,strs x.sup,qS x.vars],zp s.2.1 3 (qn (mrL names gs l layer x s.1)),s.2.2,.emp 0,.emp 0,O14,.emp 0])
   (inv:=fun s=>s.1≤l.length∧qD [s.2.2] 0=true) (m:=fun s=>l.length-s.1) (0,qs (some O10)+1,O11) ⟨Nat.zero_le _,p11⟩ (Wk.temps ?_) ?_
  ·(simp only [qz,List.replicate,mrL,List.length_nil,go_sem,qj,qh,qg,qi];try (repeat' first|(with_reducible refine And.intro ?_ ?_)|(apply qd;omega)|(apply qa;rfl)|exact VLe.refl _))
  rintro ⟨k,u,Q11⟩ ⟨m1,m2⟩ KA hKA
  simp only at m1 m2 hKA
  have m2': ∀m,qD (Q11::m) 0=true:=fun _=>m2
  by_cases hk:k<l.length
  ·have t1:((k:Int)<l.length)=True:=eq_true (by omega)
   have t2:(k<l.length)=True:=eq_true hk
   have hms:mrL names gs l layer x (k+1)=mrL names gs l layer x k++if mrB l layer x k=true then vsL names gs (l.getD k default) else []:=rfl
   have hmk:=qc3 names gs l layer x k
   have hmb:mrB l layer x k=(decide (layer<(l.getD k default).layer)&&(decide ((l.getD k default).frm=x.frm)&&decide ((l.getD k default).to=x.to))):=rfl
   have f1:=zF1 k
   have hvl:(vsL names gs (l.getD k default)).length≤32:=by
    unfold vsL
    split
    ·exact qF _ _
    ·exact Nat.zero_le _
   obtain ⟨M,hM⟩: ∃M,M=mrL names gs l layer x k:=⟨_,rfl⟩
   have eM:=hM.symm
   rw [eM]at hms hmk
   obtain ⟨y,hy⟩: ∃y,y=l.getD k default:=⟨_,rfl⟩
   have ey:=hy.symm
   rw [ey]at hms hmb f1 hvl
   obtain ⟨V,hV⟩: ∃V,V=vsL names gs y:=⟨_,rfl⟩
   rw [←hV]at hms f1 hvl
   have skip:mrB l layer x k=false→mrL names gs l layer x (k+1)=M:=fun hb=>by rw [hms,hb,if_neg (by simp),List.append_nil]
   by_cases b1:layer<y.layer
   case neg=>
    have u1:(layer<y.layer)=False:=eq_false b1
    have hmm:=skip (by rw [hmb,decide_eq_false b1,Bool.false_and])
    simp (disch:=omega) only [List.replicate,qz,enC,t1,ey,eM,m2',go_sem]
    repeat' first
     |((first|apply qc|apply qb);exact rvk;simp only [go_sem];first|exact VLe.refl _|apply qd|apply qa|apply qe|skip)
     |with_reducible first|refine And.intro ?_ ?_|intro _
    all_goals try exact clz
    refine hKA _ _ (k+1,u,.mem (qs (some Q11)+1) 49 (enC y)) ⟨hk,rfl⟩ (by simp only;omega) ?_
    simp only [hmm]
    refine Wk.temps ?_
    (simp only [qz,List.replicate,go_sem,qj,qh,qg,qi];try (repeat' first|(with_reducible refine And.intro ?_ ?_)|(apply qd;omega)|(apply qa;rfl)|exact VLe.refl _))
   have u1:(layer<y.layer)=True:=eq_true b1
   by_cases b2:y.frm=x.frm
   case neg=>
    have u2:(y.frm=x.frm)=False:=eq_false b2
    have hmm:=skip (by rw [hmb,decide_eq_false b2,Bool.false_and,Bool.and_false])
    simp (disch:=omega) only [List.replicate,qz,enC,t1,ey,eM,m2',go_sem]
    repeat' first
     |((first|apply qc|apply qb);exact rvk;simp only [go_sem];first|exact VLe.refl _|apply qd|apply qa|apply qe|skip)
     |with_reducible first|refine And.intro ?_ ?_|intro _
    all_goals try exact clz
    refine hKA _ _ (k+1,u,.mem (qs (some Q11)+1) 49 (enC y)) ⟨hk,rfl⟩ (by simp only;omega) ?_
    simp only [hmm]
    refine Wk.temps ?_
    (simp only [qz,List.replicate,go_sem,qj,qh,qg,qi];try (repeat' first|(with_reducible refine And.intro ?_ ?_)|(apply qd;omega)|(apply qa;rfl)|exact VLe.refl _))
   have u2:(y.frm=x.frm)=True:=eq_true b2
   by_cases b3:y.to=x.to
   case neg=>
    have u3:(y.to=x.to)=False:=eq_false b3
    have hmm:=skip (by rw [hmb,decide_eq_false b3,Bool.and_false,Bool.and_false])
    simp (disch:=omega) only [List.replicate,qz,enC,t1,ey,eM,m2',go_sem]
    repeat' first
     |((first|apply qc|apply qb);exact rvk;simp only [go_sem];first|exact VLe.refl _|apply qd|apply qa|apply qe|skip)
     |with_reducible first|refine And.intro ?_ ?_|intro _
    all_goals try exact clz
    refine hKA _ _ (k+1,u,.mem (qs (some Q11)+1) 49 (enC y)) ⟨hk,rfl⟩ (by simp only;omega) ?_
    simp only [hmm]
    refine Wk.temps ?_
    (simp only [qz,List.replicate,go_sem,qj,qh,qg,qi];try (repeat' first|(with_reducible refine And.intro ?_ ?_)|(apply qd;omega)|(apply qa;rfl)|exact VLe.refl _))
   have u3:(y.to=x.to)=True:=eq_true b3
   rw [if_pos (by rw [hmb,decide_eq_true b1,decide_eq_true b2,decide_eq_true b3];rfl)]at hms
   have eA:=qac (v:=u) (w:=u) (ty:=3) (cs:=qn M) (ms:=qn V) (qt M).symm (qt V).symm
   rw [←qG]at eA
   have eS:=fun h=>qdf h V
   have eCM:=qt M
   have eCV:=qt V
   simp (disch:=omega) only [List.replicate,qz,enC,t1,ey,eM,m2',f1,eS,eA,eCM,eCV,Nat.mul_one,go_sem]
   repeat' first
    |((first|apply qc|apply qb);exact rvk;simp only [go_sem];first|exact VLe.refl _|apply qd|apply qa|apply qe|skip)
    |with_reducible first|refine And.intro ?_ ?_|intro _
   all_goals try exact clz
   all_goals try (exact kS _)
   refine hKA _ _ (k+1,u+1,.mem (qs (some Q11)+1) 49 (enC y)) ⟨hk,rfl⟩ (by simp only;omega) ?_
   simp only [hms,List.length_append]
   refine Wk.temps ?_
   (simp only [qz,List.replicate,go_sem,qj,qh,qg,qi];try (repeat' first|(with_reducible refine And.intro ?_ ?_)|(apply qd;omega)|(apply qa;rfl)|exact VLe.refl _))
  obtain rfl:k=l.length:=by omega
  have t1:((l.length:Int)<l.length)=False:=eq_false (by omega)
  clear hKA
  obtain ⟨M,hM⟩: ∃M,M=mrL names gs l layer x l.length:=⟨_,rfl⟩
  have eM:=hM.symm
  rw [eM]at hmn ⊢
  have hmA:mrA names gs l layer x=M:=eM
  by_cases a2:M.length=0
  ·have q2:(0<(M.length:Int))=False:=eq_false (by omega)
   have h1:j8 names gs l layer x=x:=if_neg (fun hc=>hc.2 (by rw [hmA];exact List.eq_nil_of_length_eq_zero a2))
   rw [h1]at hst
   simp (disch:=omega) only [List.replicate,qz,enC,t1,p14',q2,eC,eTk,go_sem]
   repeat' first
    |((first|apply qc|apply qb);exact rvk;simp only [go_sem];first|exact VLe.refl _|apply qd|apply qa|apply qe|skip)
    |with_reducible first|refine And.intro ?_ ?_|intro _
   all_goals try exact clz
   try rw [eTk]
   refine hK _ _ (i+1,w+1,.mem (qs (some O9)+1) 49 (enC x),zp u 3 (qn M),Q11,.mem (qs (some O14)+1) 49 (enC x)) ⟨hi,rfl,site_own0,m2,rfl⟩ (by simp only;omega) ?_
   have eA:zA (L++ [x])=zA L++enC x:=by rw [ju];simp [zA]
   simp only [hst,eA,List.length_append,List.length_cons,List.length_nil]
   unfold enC
   rw [hpos]
   refine Wk.temps ?_
   (simp only [qz,List.replicate,enC,go_sem,qj,qh,qg,qi];try (repeat' first|(with_reducible refine And.intro ?_ ?_)|(apply qd;omega)|(apply qa;rfl)|exact VLe.refl _))
  have q2:(0<(M.length:Int))=True:=eq_true (by omega)
  have hMn:M≠ []:=fun hc=>a2 (by rw [hc];rfl)
  have h1:j8 names gs l layer x= { x with sup:=shR names gs (qlQ names gs l layer x) }:=if_pos ⟨hpos,by rw [hmA];exact hMn⟩
  rw [h1]at hst
  have eA:=qac (v:=u) (w:=u) (ty:=3) (cs:=qn M) (ms:=qn W) (qt M).symm (qt W).symm
  rw [←qG,jj (v:=u+1) (cs:=qn (M++W)) (fun hc=>hMn (List.append_eq_nil_iff.1 (qbX.1 hc)).1)]at eA
  have eS:=fun h=>qdf h W
  have eCM:=qt M
  have eCW:=qt W
  have hUn:=qst names gs l layer x
  have hUs:=qlR names gs l layer x
  rw [hmA,←hW]at hUn
  obtain ⟨U,hU⟩: ∃U,U=qlQ names gs l layer x:=⟨_,rfl⟩
  rw [←hU]at hUn hUs hst
  simp (disch:=omega) only [List.replicate,qz,enC,t1,q2,r2,f2,eS,eA,eCM,eCW,Nat.mul_one,go_sem]
  repeat' first
   |((first|apply qc|apply qb);exact rvk;simp only [go_sem];first|exact VLe.refl _|apply qd|apply qa|apply qe|skip)
   |with_reducible first|refine And.intro ?_ ?_|intro _
  all_goals try exact clz
  all_goals try (exact kS _)
  have hsE:qbs names gs U=0:=by
   unfold qbs
   rw [if_pos (by rw [←hs];exact g0)]
   exact hUs
  have hUl:U.length≤names.length:=by rw [hU];exact qF _ _
  have c61:=fun h=>qz8 names gs U h hc.hz (by omega) (fun _=>⟨n8,g8⟩)
  rw [hsE]at c61
  obtain ⟨S,hS⟩: ∃S,S=shR names gs U:=⟨_,rfl⟩
  rw [←hS]at c61 hst
  refine zh (qAf (M++W) (h.length+10) (u+1) (M.length+W.length) _ (by rw [List.length_append]) (by simp only [go_sem]) (by rw [List.length_append];omega)) (by exact flk) ?_
  simp (disch:=omega) only [go_sem]
  repeat' first
   |((first|apply qc|apply qb);exact rvk;simp only [go_sem];first|exact VLe.refl _|apply qd|apply qa|apply qe|skip)
   |with_reducible first|refine And.intro ?_ ?_|intro _
  refine zh (qzE (qlz (M++W)) (h.length+10) (u+1) (M.length+W.length) _ (by rw [qdg,List.length_append]) (by simp only [go_sem]) (by rw [qdg,List.length_append];omega)) (by exact flk) ?_
  simp (disch:=omega) only [hUn,go_sem]
  repeat' first
   |((first|apply qc|apply qb);exact rvk;simp only [go_sem];first|exact VLe.refl _|apply qd|apply qa|apply qe|skip)
   |with_reducible first|refine And.intro ?_ ?_|intro _
  refine zh (qy7 [h.length+10] ?fz ((c61 _).le ?hv (VLe.refl _))) (by exact flk) ?_
  case fz=>simp only [zN,go_sem]
  case hv=>
   simp only [kK,List.map,go_sem]
   refine ⟨VLe.refl _,VLe.refl _,?_,trivial⟩
   rw [if_pos (by simp),if_pos (by simp)]
   rw [if_pos (by rw [qt,List.length_append];omega)]
   exact qj7 _ (fun _=>rfl) rfl
  simp only [kK,List.map,go_sem]
  simp (disch:=omega) only [p14',eC,eTk,go_sem]
  repeat' first
   |((first|apply qc|apply qb);exact rvk;simp only [go_sem];first|exact VLe.refl _|apply qd|apply qa|apply qe|skip)
   |with_reducible first|refine And.intro ?_ ?_|intro _
  all_goals try exact clz
  try rw [eTk]
  refine hK _ _ (i+1,w+1,.mem (qs (some O9)+1) 49 (enC { x with sup:=S }),.emp (u+1+1),Q11,.mem (qs (some O14)+1) 49 (enC { x with sup:=S })) ⟨hi,rfl,rfl,m2,rfl⟩ (by simp only;omega) ?_
  have eA2:zA (L++ [{ x with sup:=S }])=zA L++enC { x with sup:=S }:=by rw [ju];simp [zA]
  simp only [hst,eA2,List.length_append,List.length_cons,List.length_nil]
  unfold enC
  rw [hpos]
  refine Wk.temps ?_
  (simp only [qz,List.replicate,enC,go_sem,qj,qh,qg,qi];try (repeat' first|(with_reducible refine And.intro ?_ ?_)|(apply qd;omega)|(apply qa;rfl)|exact VLe.refl _))
 obtain rfl:i=l.length:=by omega
 have r1:((l.length:Int)<l.length)=False:=eq_false (by omega)
 obtain ⟨L,hL⟩: ∃L,L=rsL names gs l layer l.length:=⟨_,rfl⟩
 rw [←hL]
 simp (disch:=omega) only [List.replicate,r1,go_sem]
 repeat' first
  |((first|apply qc|apply qb);exact rvk;simp only [go_sem];first|exact VLe.refl _|apply qd|apply qa|apply qe|skip)
  |with_reducible first|refine And.intro ?_ ?_|intro _
 all_goals try exact clz
 exact qK ⟨qlj rfl,VLe.refl _,trivial⟩
end RC
end
section
open Go Go.Proofs AF
def qro:List Nat:= [93,74,79,120,147,148,161,170,63,105,131,64,31,32,57,58,29,30,1000026,1000027,1000030,1000031]
def qyL:C:=
 ((C.ops [O1 1 (.box 0 49) 0,⟨some 2,none,.alloc 1 49 [i6 0,i6 0,i6 0,.bool false,.nl,.nl],[]⟩]).seq ((C.ops [⟨some 6,none,.bslc 2 1 0 9 [.str []] [],[]⟩,O1 7 (.fldA 4)
 1,LD 8 7,O2 9 (.app 3 1 9 16) 6 8,O1 10 (.fldA 4) 1,ST 1 10 9]).seq ((C.ops [⟨some 11,none,.bslc 4 2 0 51 [.nl,.nl] [],[]⟩,MV 3 11]).seq (((C.ops [MC 4 (i6 0)]).seq
 (C.block 0 (((C.ops [MV 12 4,O1 13 (.fldA 5) 1,LD 14 13,O1 15 .len 14,BI 16 .lss 12 15]).seq (C.cond (.t 16) C.skip (C.exit 0))).seq ((C.block 1 ((C.ops [O1 19 (.fldA 5) 1,LD
 20 19,MV 21 4,O2 22 (.idxA 2) 20 21,O1 23 (.load (some 2)) 22,⟨some 5,none,.alloc 5 51 [.nl,.nl],[]⟩,ST 2 5 23]).seq (C.wk.seq (C.draw (DT.one ⟨some 24,none,.mv,[.t 3]⟩
 (DT.one ⟨some 25,none,.bslc 6 1 0 9 [.str []] [],[]⟩ (DT.one ⟨some 26,none,.fldI 0,[.t 5]⟩ (DT.one ⟨some 27,none,.loadI none,[.t 26]⟩ (DT.one ⟨some 30,none,.fldI 1,[.t
 5]⟩ (DT.one ⟨some 31,none,.loadI none,[.t 30]⟩ ((DT.one ⟨some 28,none,.app 7 1 9 16,[.t 25,.t 27]⟩ (DT.one ⟨some 29,none,.bslc 8 1 0 9 [.str []] [],[]⟩ (DT.one ⟨some 32,
 none,.app 9 1 9 16,[.t 29,.t 31]⟩ (DT.one ⟨some 33,none,.build [.nl,.nl] [(0,1),(1,1)],[.t 28,.t 32]⟩ (DT.one ⟨some 34,none,.bslc 10 2 1 51 [.nl,.nl] [(0,2)],[.t
 33]⟩ (DT.one ⟨some 35,none,.app 11 2 51 48,[.t 24,.t 34]⟩ (DT.one ⟨some 3,none,.mv,[.t 35]⟩ DT.nil))))))).two (DT.one ⟨some 29,none,.bslc 8 1 0 9 [.str []] [],[]⟩ (DT.one
 ⟨some 28,none,.app 7 1 9 16,[.t 25,.t 27]⟩ (DT.one ⟨some 32,none,.app 9 1 9 16,[.t 29,.t 31]⟩ (DT.one ⟨some 33,none,.build [.nl,.nl] [(0,1),(1,1)],[.t 28,.t 32]⟩
 (DT.one ⟨some 34,none,.bslc 10 2 1 51 [.nl,.nl] [(0,2)],[.t 33]⟩ (DT.one ⟨some 35,none,.app 11 2 51 48,[.t 24,.t 34]⟩ (DT.one ⟨some 3,none,.mv,[.t 35]⟩
 DT.nil)))))))))))))))))).seq (C.ops [MV 17 4,BC 18 .add 17 (i6 1),MV 4 18]))).loop)).seq ((C.ops [MV 36 3,O1 37 (.fldA 5) 1,ST 1 37 36]).seq ((C.ops [O1 38 (.load (some 6)) 1,
 ST 6 2 38]).seq
 C.ret))))))
theorem qxB:qM Tryz.prog 65 39 12 [RV.cell 2 (some 6)] qyL:=fi Tryz.f65 [1,2,6,9,11,5,25,28,29,32,34,35] qro [7] (by kernel_rfl) (by kernel_rfl) (by kernel_rfl) (by kernel_rfl)
end
section
open Go Go.Proofs AF HY LN
namespace RC
set_option maxHeartbeats 16000000
def bC (p:Nat→Bool) (n:Nat):List AV:=(List.range n).map fun k=> .bool (p k)
theorem j0 (p:Nat→Bool) (n:Nat):(bC p n).length=n:=by simp [bC]
theorem qbN {p:Nat→Bool} {n k:Nat} (hk:k<n):(bC p n)[k]? =some (.bool (p k)):=by
 unfold bC
 rw [List.getElem?_map,List.getElem?_range hk]
 rfl
theorem qtc {p:Nat→Bool} {n k:Nat} (hk:k<n):((bC p n).drop k).take 1= [.bool (p k)]:=by
 rw [List.drop_eq_getElem_cons (by rw [j0];exact hk),List.take_succ_cons,List.take_zero]
 have h:=qbN (p:=p) hk
 rw [q9 (by rw [j0];exact hk)]at h
 rw [Option.some.inj h]
theorem qad {p q:Nat→Bool} {n:Nat} (h: ∀k,k<n→p k=q k):bC p n=bC q n:=by
 unfold bC
 exact List.map_congr_left fun k hk=>by rw [h k (List.mem_range.1 hk)]
theorem qpn {p:Nat→Bool} {n u:Nat} (hu:u<n):List.take u (bC p n)++ [AV.bool true]++List.drop (u+1) (bC p n)=bC (fun k=>p k||decide (k=u)) n:=by
 refine List.ext_getElem? fun k=> ?_
 by_cases hk:k<n
 ·rw [qbN hk]
  by_cases h1:k<u
  ·rw [List.append_assoc,List.getElem?_append_left (by rw [List.length_take,j0];omega),List.getElem?_take_of_lt h1,qbN hk,decide_eq_false (by omega),Bool.or_false]
  ·by_cases h2:k=u
   ·subst h2
    rw [List.append_assoc,List.getElem?_append_right (by rw [List.length_take,j0];omega),List.length_take,j0,show k-min k n=0 by omega,decide_eq_true rfl,Bool.or_true]
    rfl
   ·rw [List.getElem?_append_right (by rw [List.length_append,List.length_take,j0];simp only [List.length_cons,List.length_nil];omega),List.length_append,List.length_take,j0,List.getElem?_drop]
    simp only [List.length_cons,List.length_nil]
    rw [show u+1+(k-(min u n+(0+1)))=k by omega,qbN hk,decide_eq_false h2,Bool.or_false]
 ·rw [List.getElem?_eq_none (by simp only [List.length_append,List.length_take,List.length_drop,j0,List.length_cons,List.length_nil];omega),List.getElem?_eq_none (by rw [j0];omega)]
theorem qqe (n:Nat):za [AV.bool false] n=bC (fun _=>false) n:=by
 induction n with
 |zero=>rfl
 |succ n ih=>
  have e:bC (fun _=>false) (n+1)=AV.bool false::bC (fun _=>false) n:=by
   unfold bC
   rw [List.range_succ_eq_map,List.map_cons,List.map_map]
   rfl
  rw [e,←ih]
  rfl
theorem qzZ (n:Nat) (a b:List Int) (h:List AObj) (hn:n≤1000000) (ha:inB n a) (hb:inB n b) (la:a.length≤1000000000) (lb:b.length≤1000000000):
  qm Tryz.prog 67 [.int .i64 n,ql a,ql b] h (ql (qP (fun k=>decide ((k:Int)∈a)||decide ((k:Int)∈b)) n)) h:=by
 have k0:(0≤(n:Int))=True:=eq_true (by omega)
 have k1:((n:Int)≤9223372036854775807)=True:=eq_true (by omega)
 refine acO qxC ?_
 simp (disch:=omega) only [qyM,List.replicate,ql,k0,k1,go_sem]
 repeat' first
  |((first|apply qc|apply qb);exact rvk;simp only [go_sem];first|exact VLe.refl _|apply qd|apply qa|apply qe|skip)
  |with_reducible first|refine And.intro ?_ ?_|intro _
 all_goals try exact clz
 all_goals try rw [Int.toNat_natCast]
 rw [qqe]
 obtain ⟨pf,hpf⟩: ∃pf:Nat→Nat→Bool,pf=fun (m k:Nat)=>decide ((k:Int)∈a.take m):=⟨_,rfl⟩
 have p0:bC (fun _=>false) n=bC (pf 0) n:=qad fun k _=>by rw [hpf];simp
 rw [p0]
 refine qo (T:=fun i:Nat=>qI 53 [(0,.int .i64 n),(1,ql a),(2,ql b),(7,.osl (h.length+1) 1 1 0 n),(8,.int .i64 i)])
  (H:=fun i=>h++ [.emp 1,.mem 1 4 (bC (pf i) n),.emp 0,.emp 0,.emp 0])
  (inv:=fun i=>i≤a.length) (m:=fun i=>a.length-i) 0 (Nat.zero_le _) (Wk.temps ?_) ?_
 ·(simp only [ql,List.replicate,go_sem,qj,qh,qg,qi];try (repeat' first|(with_reducible refine And.intro ?_ ?_)|(apply qd;omega)|(apply qa;rfl)|exact VLe.refl _))
 rintro i i1 K hK
 have zv: ∀X:List Int,ql X= .sl X.length fun i=> [.int .i64 (X.getD i 0)]:=fun _=>rfl
 by_cases hi:i<a.length
 ·have t1:((i:Int)<a.length)=True:=eq_true (by omega)
  have t0:(0≤(i:Int))=True:=eq_true (by omega)
  obtain ⟨b0,b1⟩:=ha i hi
  have htk:=zu hi
  obtain ⟨w,hw⟩: ∃w,w=a.getD i 0:=⟨_,rfl⟩
  have ew:=hw.symm
  rw [ew]at b0 b1 htk
  obtain ⟨u,rfl⟩: ∃u:Nat,w=(u:Int):=⟨w.toNat,by omega⟩
  have un:u<n:=by omega
  have t2:(0≤(u:Int))=True:=eq_true (by omega)
  have t3:((u:Int)<n)=True:=eq_true (by omega)
  have t4:(u<n)=True:=eq_true un
  have t5:(u+1≤n)=True:=eq_true un
  have gl:=j0 (pf i) n
  have gs1:=qpn (p:=pf i) un
  have gg:=qbN (p:=pf i) un
  have hpn:bC (fun k=>pf i k||decide (k=u)) n=bC (pf (i+1)) n:=qad fun k _=>by
   rw [hpf]
   simp only
   rw [htk,←Bool.decide_or]
   refine decide_eq_decide.2 ?_
   rw [List.mem_append,List.mem_singleton]
   exact or_congr Iff.rfl ⟨fun h=>by omega,fun h=>by omega⟩
  simp (disch:=omega) only [List.replicate,zv,t0,t1,t2,t3,t4,t5,ew,gl,gs1,gg,Nat.mul_one,Nat.zero_add,Int.toNat_natCast,Option.isSome_some,go_sem]
  repeat' first
   |((first|apply qc|apply qb);exact rvk;simp only [go_sem];first|exact VLe.refl _|apply qd|apply qa|apply qe|skip)
   |with_reducible first|refine And.intro ?_ ?_|intro _
  all_goals try exact clz
  try rw [hpn]
  refine hK _ _ (i+1) hi (by omega) (Wk.temps ?_)
  (simp only [zv,List.replicate,go_sem,qj,qh,qg,qi];try (repeat' first|(with_reducible refine And.intro ?_ ?_)|(apply qd;omega)|(apply qa;rfl)|exact VLe.refl _))
 obtain rfl:i=a.length:=by omega
 have t1:((a.length:Int)<a.length)=False:=eq_false (by omega)
 clear hK
 simp (disch:=omega) only [List.replicate,t1,ql,go_sem]
 repeat' first
  |((first|apply qc|apply qb);exact rvk;simp only [go_sem];first|exact VLe.refl _|apply qd|apply qa|apply qe|skip)
  |with_reducible first|refine And.intro ?_ ?_|intro _
 all_goals try exact clz
 obtain ⟨pg,hpg⟩: ∃pg:Nat→Nat→Bool,pg=fun (m k:Nat)=>decide ((k:Int)∈a)||decide ((k:Int)∈b.take m):=⟨_,rfl⟩
 have p1:bC (pf a.length) n=bC (pg 0) n:=qad fun k _=>by rw [hpf,hpg];simp
 rw [p1]
 refine qo (T:=fun i:Nat=>qI 53 [(0,.int .i64 n),(2,ql b),(7,.osl (h.length+1) 1 1 0 n),(9,.int .i64 i)])
  (H:=fun i=>h++ [.emp 1,.mem 1 4 (bC (pg i) n),.emp 0,.emp 0,.emp 0])
  (inv:=fun i=>i≤b.length) (m:=fun i=>b.length-i) 0 (Nat.zero_le _) (Wk.temps ?_) ?_
 ·(simp only [ql,List.replicate,go_sem,qj,qh,qg,qi];try (repeat' first|(with_reducible refine And.intro ?_ ?_)|(apply qd;omega)|(apply qa;rfl)|exact VLe.refl _))
 rintro i i1 K hK
 by_cases hi:i<b.length
 ·have t1:((i:Int)<b.length)=True:=eq_true (by omega)
  have t0:(0≤(i:Int))=True:=eq_true (by omega)
  obtain ⟨b0,b1⟩:=hb i hi
  have htk:=zu hi
  obtain ⟨w,hw⟩: ∃w,w=b.getD i 0:=⟨_,rfl⟩
  have ew:=hw.symm
  rw [ew]at b0 b1 htk
  obtain ⟨u,rfl⟩: ∃u:Nat,w=(u:Int):=⟨w.toNat,by omega⟩
  have un:u<n:=by omega
  have t2:(0≤(u:Int))=True:=eq_true (by omega)
  have t3:((u:Int)<n)=True:=eq_true (by omega)
  have t4:(u<n)=True:=eq_true un
  have t5:(u+1≤n)=True:=eq_true un
  have gl:=j0 (pg i) n
  have gs1:=qpn (p:=pg i) un
  have gg:=qbN (p:=pg i) un
  have hpn:bC (fun k=>pg i k||decide (k=u)) n=bC (pg (i+1)) n:=qad fun k _=>by
   rw [hpg]
   simp only
   rw [htk,Bool.or_assoc,←Bool.decide_or]
   congr 1
   refine decide_eq_decide.2 ?_
   rw [List.mem_append,List.mem_singleton]
   exact or_congr Iff.rfl ⟨fun h=>by omega,fun h=>by omega⟩
  simp (disch:=omega) only [List.replicate,zv,t0,t1,t2,t3,t4,t5,ew,gl,gs1,gg,Nat.mul_one,Nat.zero_add,Int.toNat_natCast,Option.isSome_some,go_sem]
  repeat' first
   |((first|apply qc|apply qb);exact rvk;simp only [go_sem];first|exact VLe.refl _|apply qd|apply qa|apply qe|skip)
   |with_reducible first|refine And.intro ?_ ?_|intro _
  all_goals try exact clz
  try rw [hpn]
  refine hK _ _ (i+1) hi (by omega) (Wk.temps ?_)
  (simp only [zv,List.replicate,go_sem,qj,qh,qg,qi];try (repeat' first|(with_reducible refine And.intro ?_ ?_)|(apply qd;omega)|(apply qa;rfl)|exact VLe.refl _))
 obtain rfl:i=b.length:=by omega
 have t1:((b.length:Int)<b.length)=False:=eq_false (by omega)
 clear hK
 simp (disch:=omega) only [List.replicate,t1,ql,go_sem]
 repeat' first
  |((first|apply qc|apply qb);exact rvk;simp only [go_sem];first|exact VLe.refl _|apply qd|apply qa|apply qe|skip)
  |with_reducible first|refine And.intro ?_ ?_|intro _
 all_goals try exact clz
 obtain ⟨pB,hpB⟩: ∃pB:Nat→Bool,pB=fun (k:Nat)=>decide ((k:Int)∈a)||decide ((k:Int)∈b):=⟨_,rfl⟩
 have p2:bC (pg b.length) n=bC pB n:=qad fun k _=>by rw [hpg,hpB];simp
 rw [p2,←hpB]
 have eM:za [AV.int .i64 0] 0=qn (qP pB 0):=rfl
 rw [eM]
 refine qo (T:=fun i:Nat×Nat×AObj=>qI 53 [(0,.int .i64 n),(7,.osl (h.length+1) 1 1 0 n),(10,.osl (h.length+2) i.2.1 1 0 (qP pB i.1).length),(11,.int .i64 i.1)])
  (H:=fun i=>h++ [.emp 1,.mem 1 4 (bC pB n),.mem i.2.1 3 (qn (qP pB i.1)),i.2.2,.emp 0])
  (inv:=fun i=>i.1≤n∧qD [i.2.2] 0=true) (m:=fun i=>n-i.1) (0,1,.emp 0) ⟨Nat.zero_le _,rfl⟩ (Wk.temps ?_) ?_
 ·(simp only [List.replicate,qP,List.range_zero,List.filter_nil,List.length_nil,List.map_nil,go_sem,qj,qh,qg,qi];try (repeat' first|(with_reducible refine And.intro ?_ ?_)|(apply qd;omega)|(apply qa;rfl)|exact VLe.refl _))
 rintro ⟨i,v,O⟩ ⟨i1,i2⟩ K hK
 simp only at i1 i2 hK
 have i2': ∀m,qD (O::m) 0=true:=fun _=>i2
 have hst:=zC pB i
 obtain ⟨L,hL⟩: ∃L,L=qP pB i:=⟨_,rfl⟩
 have hll:=qF pB i
 rw [←hL]at hst hll
 have eL:=hL.symm
 have eC:=qt L
 have eTk:List.take L.length (qn L)=qn L:=List.take_of_length_le (by omega)
 by_cases hi:i<n
 ·have t1:((i:Int)<n)=True:=eq_true (by omega)
  have t2:(0≤(i:Int))=True:=eq_true (by omega)
  have t4:(i<n)=True:=eq_true hi
  have t5:(i+1≤n)=True:=eq_true hi
  have gl:=j0 pB n
  have gg:=qbN (p:=pB) hi
  have gc:=qtc (p:=pB) hi
  cases hb:pB i with
  |true=>
   rw [hb]at gg gc
   rw [if_pos hb]at hst
   simp (disch:=omega) only [List.replicate,t1,t2,t4,t5,gl,gg,gc,eL,i2',Nat.mul_one,Nat.zero_add,Int.toNat_natCast,Option.isSome_some,Option.getD_some,go_sem]
   repeat' first
    |((first|apply qc|apply qb);exact rvk;simp only [go_sem];first|exact VLe.refl _|apply qd|apply qa|apply qe|skip)
    |with_reducible first|refine And.intro ?_ ?_|intro _
   all_goals try exact clz
   have eA:qn L++ [AV.int .i64 (i:Int)]=qn (qP pB (i+1)):=by rw [hst,qG];rfl
   try rw [eTk]
   try rw [eA]
   refine hK _ _ (i+1,v+1,.mem (qs (some O)+1) 3 [.int .i64 (i:Int)]) ⟨hi,rfl⟩ (by simp only;omega) ?_
   simp only [hst,List.length_append,List.length_cons,List.length_nil]
   refine Wk.temps ?_
   (simp only [List.replicate,go_sem,qj,qh,qg,qi];try (repeat' first|(with_reducible refine And.intro ?_ ?_)|(apply qd;omega)|(apply qa;rfl)|exact VLe.refl _))
  |false=>
   rw [hb]at gg gc
   rw [if_neg (by rw [hb];simp),List.append_nil]at hst
   simp (disch:=omega) only [List.replicate,t1,t2,t4,t5,gl,gg,gc,eL,i2',Nat.mul_one,Nat.zero_add,Int.toNat_natCast,Option.isSome_some,Option.getD_some,go_sem]
   repeat' first
    |((first|apply qc|apply qb);exact rvk;simp only [go_sem];first|exact VLe.refl _|apply qd|apply qa|apply qe|skip)
    |with_reducible first|refine And.intro ?_ ?_|intro _
   all_goals try exact clz
   refine hK _ _ (i+1,v,O) ⟨hi,i2⟩ (by simp only;omega) ?_
   simp only [hst]
   refine Wk.temps ?_
   (simp only [List.replicate,go_sem,qj,qh,qg,qi];try (repeat' first|(with_reducible refine And.intro ?_ ?_)|(apply qd;omega)|(apply qa;rfl)|exact VLe.refl _))
 ·obtain rfl:i=n:=by omega
  have t1:((i:Int)<i)=False:=eq_false (by omega)
  simp (disch:=omega) only [List.replicate,t1,eL,go_sem]
  repeat' first
   |((first|apply qc|apply qb);exact rvk;simp only [go_sem];first|exact VLe.refl _|apply qd|apply qa|apply qe|skip)
   |with_reducible first|refine And.intro ?_ ?_|intro _
  all_goals try exact clz
  rw [if_pos (by omega)]
  exact zr _ (fun _=>rfl) rfl
end RC
end
section
open Go Go.Proofs AF HY LN
namespace RC
set_option maxHeartbeats 16000000
def qms (L:List Va):List AV:=L.flatMap vaC
theorem qgn (L:List Va):(qms L).length=L.length*2:=by
 unfold qms
 induction L with
 |nil=>rfl
 |cons a L ih=>rw [List.flatMap_cons,List.length_append,ih,List.length_cons];simp only [vaC,List.length_cons,List.length_nil];omega
theorem qlT {L:List Va} {i:Nat} (hi:i<L.length):qms (L.take (i+1))=qms (L.take i)++ [strs (L.getD i default).words,strs (L.getD i default).sigla]:=by
 unfold qms
 rw [List.take_add_one,q9 hi,gdqA,q9 hi,Option.toList_some,List.flatMap_append,List.flatMap_cons,List.flatMap_nil,List.append_nil]
 rfl
theorem qo2 {L:List Va}: ∀ {i:Nat},i<L.length→((qms L).drop (i*2)).take 2= [strs (L.getD i default).words,strs (L.getD i default).sigla]:=by
 induction L with
 |nil=>intro i h;exact absurd h (Nat.not_lt_zero i)
 |cons a L ih=>
  intro i h
  have e:qms (a::L)=strs a.words::strs a.sigla::qms L:=rfl
  cases i with
  |zero=>rw [e];rfl
  |succ i=>
   rw [e,show (i+1)*2=i*2+1+1 by omega,List.drop_succ_cons,List.drop_succ_cons,ih (by simpa using h)]
   rfl
theorem qeh {v n:Nat} {ty:TypeId} {L:List Str} {g:AV→AV} (hg: ∀s,g (.str s)= .str s) (hn:n=L.length):VLe (qdr (some (.mem v ty (zR L))) v 1 0 n g) (strs L):=by
 subst hn
 rw [slOf_mem,if_pos ⟨rfl,by rw [zd];omega⟩]
 simp only [Nat.zero_add,Nat.mul_one]
 exact qbK g hg rfl
theorem qzF (e:En) (h:List AObj) (hs:e.sup.length≤1000000000) (hv:e.vars.length≤1000000000) (hw: ∀j,(e.vars.getD j default).words.length≤1000000000) (hg: ∀j,(e.vars.getD j default).sigla.length≤1000000000):
  qm Tryz.prog 65 [.agg (enC e)] h (.agg (enC e)) h:=by
 have eS:=fun h=>qaz h e.sup
 have eSl:=zd e.sup
 have eM0:za [AV.str []] 0= []:=rfl
 have tk0: ∀k,List.take k ([]:List AV)= []:=fun _=>List.take_nil
 have zv1: ∀g,valL g .len [qS e.vars]= .int .i64 e.vars.length:=fun _=>rfl
 have zv2: ∀g,okL g .len [qS e.vars]=True:=fun _=>eq_true trivial
 refine acO qxB ?_
 simp (disch:=omega) only [qyL,List.replicate,enC,eS,eSl,eM0,tk0,Nat.zero_add,List.nil_append,go_sem]
 repeat' first
  |((first|apply qc|apply qb);exact rvk;simp only [go_sem];first|exact VLe.refl _|apply qd|apply qa|apply qe|skip)
  |with_reducible first|refine And.intro ?_ ?_|intro _
 all_goals try exact clz
 all_goals try (exact kT _)
 refine qo (T:=fun s:Nat×Nat×AObj×AObj×AObj×AObj=>qI 39 [(1,.op h.length 1 0),(2,.op (h.length+1) 1 0),(3,.osl (h.length+4) s.2.1 2 0 s.1),(4,.int .i64 s.1)])
  (H:=fun s=>h++ [.mem 1 49 (enC e),.mem 1 49 [.int .i64 0,.int .i64 0,.int .i64 0,.bool false,.nl,.nl],.emp 3,.emp 0,.mem s.2.1 51 (qms (e.vars.take s.1)),s.2.2.1,s.2.2.2.1,.emp 0,s.2.2.2.2.1,.emp 0,s.2.2.2.2.2,.emp 0])
  (inv:=fun s=>s.1≤e.vars.length∧qD [s.2.2.1] 0=true∧qD [s.2.2.2.1] 0=true∧qD [s.2.2.2.2.1] 0=true∧qD [s.2.2.2.2.2] 0=true) (m:=fun s=>e.vars.length-s.1) (0,1,.emp 0,.emp 0,.emp 0,.emp 0) ⟨Nat.zero_le _,rfl,rfl,rfl,rfl⟩
  (Wk.trans (Wk.fzCell (j:=h.length) (k:=h.length+2) (i:=4) (v:=1) (ty:=49) (cs:= [.int .i64 e.layer,.int .i64 e.frm,.int .i64 e.to,.bool e.pos,.osl (h.length+2) 2 1 0 e.sup.length,qS e.vars]) (c:= .osl (h.length+2) 2 1 0 e.sup.length) (c':=strs e.sup) ?w1 rfl ?w2 (by omega) ?w3) ?w4) ?_
 case w1=>simp only [go_sem]
 case w2=>simp only [go_sem]
 case w3=>
  rw [jv,getO_app]
  refine qeh ?_ rfl
  exact fun _=>rfl
 case w4=>
  simp only [go_sem,List.set_cons_succ,List.set_cons_zero]
  refine Wk.temps ?_
  (simp only [List.replicate,go_sem,qj,qh,qg,qi];try (repeat' first|(with_reducible refine And.intro ?_ ?_)|(apply qd;omega)|(apply qa;rfl)|exact VLe.refl _))
 rintro ⟨i,v,O5,O6,O8,O10⟩ ⟨i1,p5,p6,p8,p10⟩ K hK
 simp only at i1 p5 p6 p8 p10 hK
 have p5': ∀m,qD (O5::m) 0=true:=fun _=>p5
 have p6': ∀m,qD (O6::m) 0=true:=fun _=>p6
 have p8': ∀m,qD (O8::m) 0=true:=fun _=>p8
 have p10': ∀m,qD (O10::m) 0=true:=fun _=>p10
 by_cases hi:i<e.vars.length
 ·have k1:((i:Int)<e.vars.length)=True:=eq_true (by omega)
  have hst:=qlT hi
  have hln:=qgn (e.vars.take i)
  rw [List.length_take,Nat.min_eq_left i1]at hln
  have hwi:=hw i
  have hgi:=hg i
  obtain ⟨x,hx⟩: ∃x,x=e.vars.getD i default:=⟨_,rfl⟩
  have ex:=hx.symm
  rw [ex]at hst hwi hgi
  obtain ⟨L,hL⟩: ∃L,L=qms (e.vars.take i):=⟨_,rfl⟩
  have eL:=hL.symm
  rw [eL]at hst hln
  have eT:List.take (i*2) L=L:=List.take_of_length_le (by omega)
  simp (disch:=omega) only [List.replicate,enC,qS,vaC,k1,p5',p6',p8',p10',ex,eL,go_sem]
  repeat' first
   |((first|apply qc|apply qb);exact rvk;simp only [go_sem];first|exact VLe.refl _|apply qd|apply qa|apply qe|skip)
   |with_reducible first|refine And.intro ?_ ?_|intro _
  all_goals try exact clz
  refine ⟨qI 39 [(1,.op h.length 1 0),(2,.op (h.length+1) 1 0),(3,.osl (h.length+4) v 2 0 i),(4,.int .i64 i),(5,.ip [strs x.words,strs x.sigla])],_,Wk.trans (Wk.freeze [h.length+5] (by simp only [zN,go_sem])) (Wk.temps ?_),?_⟩
  ·(simp only [List.replicate,List.map,go_sem,qj,qh,qg,qi];try (repeat' first|(with_reducible refine And.intro ?_ ?_)|(apply qd;omega)|(apply qa;rfl)|exact VLe.refl _))
   ·rw [if_neg (by simp)];exact VLe.refl _
   ·rw [if_neg (by simp)];exact VLe.refl _
   ·rw [if_neg (by simp)];exact VLe.refl _
   ·rw [if_pos (by simp),if_pos (by simp)];exact VLe.refl _
  simp only [kK,List.map,go_sem]
  have eS1:=fun h=>qaz h x.words
  have eS2:=fun h=>qaz h x.sigla
  have eN1:=zd x.words
  have eN2:=zd x.sigla
  refine qqM ?T ?H ?h1 ?h2
  case h1=>
   simp (disch:=omega) only [List.replicate,p5',p6',p8',p10',eS1,eS2,eN1,eN2,eM0,tk0,eT,Nat.zero_add,List.nil_append,go_sem]
   repeat' first
    |((first|apply qc|apply qb);exact rvk;simp only [go_sem];first|exact VLe.refl _|apply qd|apply qa|apply qe|skip)
    |with_reducible first|refine And.intro ?_ ?_|intro _
   all_goals first
    |omega
    |exact kT _
    |rfl
    |(simp<;>fail)
  case h2=>
  simp (disch:=omega) only [go_sem]
  repeat' first
   |((first|apply qc|apply qb);exact rvk;simp only [go_sem];first|exact VLe.refl _|apply qd|apply qa|apply qe|skip)
   |with_reducible first|refine And.intro ?_ ?_|intro _
  all_goals try exact clz
  have es1: ∀a b c:AV,(L++ [a,b]).set (i*2) c=L++ [c,b]:=fun a b c=>by
   rw [List.set_append_right _ _ (by omega),hln,Nat.sub_self];rfl
  have es2: ∀a b c:AV,(L++ [a,b]).set (i*2+1) c=L++ [a,c]:=fun a b c=>by
   rw [List.set_append_right _ _ (by omega),hln,show i*2+1-i*2=1 by omega];rfl
  have eg1: ∀a b:AV,(L++ [a,b])[i*2]? =some a:=fun a b=>by
   rw [List.getElem?_append_right (by omega),hln,Nat.sub_self];rfl
  have eg2: ∀a b:AV,(L++ [a,b])[i*2+1]? =some b:=fun a b=>by
   rw [List.getElem?_append_right (by omega),hln,show i*2+1-i*2=1 by omega];rfl
  refine hK _ _ (i+1,v+1,.emp (qs (some O5)+1+1),.emp (qs (some O6)+1+1+1),.emp (qs (some O8)+1+1+1),.mem (qs (some O10)+1) 51 [.osl (h.length+6) (qs (some O6)+1+1) 1 0 x.words.length,.osl (h.length+8) (qs (some O8)+1+1) 1 0 x.sigla.length]) ⟨hi,rfl,rfl,rfl,rfl⟩ (by simp only;omega)
   (Wk.trans (Wk.fzCell (j:=h.length+4) (k:=h.length+6) (i:=i*2) (v:=v+1) (ty:=51) (cs:=L++ [.osl (h.length+6) (qs (some O6)+1+1) 1 0 x.words.length,.osl (h.length+8) (qs (some O8)+1+1) 1 0 x.sigla.length]) (c:= .osl (h.length+6) (qs (some O6)+1+1) 1 0 x.words.length) (c':=strs x.words) ?a1 (eg1 _ _) ?a3 (by omega) ?a4)
    (Wk.trans (Wk.fzCell (j:=h.length+4) (k:=h.length+8) (i:=i*2+1) (v:=v+1) (ty:=51) (cs:=L++ [strs x.words,.osl (h.length+8) (qs (some O8)+1+1) 1 0 x.sigla.length]) (c:= .osl (h.length+8) (qs (some O8)+1+1) 1 0 x.sigla.length) (c':=strs x.sigla) ?b1 (eg2 _ _) ?b3 (by omega) ?b4) ?b5))
  case a1=>simp only [go_sem]
  case a3=>simp only [go_sem]
  case a4=>
   rw [jv,getO_app]
   refine qeh ?_ rfl
   exact fun _=>rfl
  case b1=>simp only [go_sem,es1]
  case b3=>simp only [go_sem]
  case b4=>
   rw [jv]
   simp only [getO_app,go_sem,es1]
   rw [if_pos (by rw [zd];omega)]
   refine qbK _ ?_ rfl
   exact fun _=>rfl
  case b5=>
   simp only [go_sem,es1,es2,hst]
   refine Wk.temps ?_
   (simp only [List.replicate,go_sem,qj,qh,qg,qi];try (repeat' first|(with_reducible refine And.intro ?_ ?_)|(apply qd;omega)|(apply qa;rfl)|exact VLe.refl _))
 obtain rfl:i=e.vars.length:=by omega
 have k1:((e.vars.length:Int)<e.vars.length)=False:=eq_false (by omega)
 simp (disch:=omega) only [List.replicate,enC,k1,zv1,zv2,go_sem]
 repeat' first
  |((first|apply qc|apply qb);exact rvk;simp only [go_sem];first|exact VLe.refl _|apply qd|apply qa|apply qe|skip)
  |with_reducible first|refine And.intro ?_ ?_|intro _
 all_goals try exact clz
 rw [List.take_length,if_pos (by rw [qgn];omega)]
 refine VLe.agg ⟨VLe.refl _,VLe.refl _,VLe.refl _,VLe.refl _,VLe.refl _,VLe.sl_eq rfl fun i hi=> ?_,trivial⟩
 rw [qo2 hi]
 rfl
end RC
end
section
open Go Go.Proofs AF HY LN
namespace RC
set_option maxHeartbeats 16000000
theorem qAa (e:En) (h:List AObj) (hs:e.sup.length≤1000000000) (hv:e.vars.length≤1000000000) (hw: ∀j,(e.vars.getD j default).words.length≤1000000000) (hg: ∀j,(e.vars.getD j default).sigla.length≤1000000000):
  qm Tryz.prog 68 [.agg (enC e),.agg (enC e)] h (.bool true) h:=by
 have c85:=fun h=>qyc e.sup e.sup h hs hs
 rw [decide_eq_true rfl]at c85
 have zv1: ∀g,valL g .len [qS e.vars]= .int .i64 e.vars.length:=fun _=>rfl
 have zv2: ∀g,okL g .len [qS e.vars]=True:=fun _=>eq_true trivial
 refine acO qxD ?_
 simp (disch:=omega) only [qyN,List.replicate,enC,zv1,zv2,go_sem]
 repeat' first
  |((first|refine cA (c85 _) ?_ ?_|refine cG (fun e=>c85 _) ?_ ?_|refine cU (fun _=>c85 _) ?_ ?_);(next=>exact flk);simp (disch:=omega) only [enC,zv1,zv2,go_sem])
  |((first|apply qc|apply qb);exact rvk;simp only [go_sem];first|exact VLe.refl _|apply qd|apply qa|apply qe|skip)
  |with_reducible first|refine And.intro ?_ ?_|intro _
 all_goals try exact clz
 refine qo (T:=fun i:Nat=>qI 86 [(2,.op h.length 1 0),(3,.op (h.length+1) 1 0),(5,.int .i64 i)])
  (H:=fun _=>h++ [.mem 1 49 [.int .i64 e.layer,.int .i64 e.frm,.int .i64 e.to,.bool e.pos,strs e.sup,qS e.vars],.mem 1 49 [.int .i64 e.layer,.int .i64 e.frm,.int .i64 e.to,.bool e.pos,strs e.sup,qS e.vars]])
  (inv:=fun i=>i≤e.vars.length) (m:=fun i=>e.vars.length-i) 0 (Nat.zero_le _) (Wk.temps ?_) ?_
 ·(simp only [List.replicate,go_sem,qj,qh,qg,qi];try (repeat' first|(with_reducible refine And.intro ?_ ?_)|(apply qd;omega)|(apply qa;rfl)|exact VLe.refl _))
 rintro i i1 K hK
 by_cases hi:i<e.vars.length
 ·have k1:((i:Int)<e.vars.length)=True:=eq_true (by omega)
  have cw:=fun h=>qyc (e.vars.getD i default).words (e.vars.getD i default).words h (hw i) (hw i)
  have cg:=fun h=>qyc (e.vars.getD i default).sigla (e.vars.getD i default).sigla h (hg i) (hg i)
  rw [decide_eq_true rfl]at cw cg
  obtain ⟨x,hx⟩: ∃x,x=e.vars.getD i default:=⟨_,rfl⟩
  have ex:=hx.symm
  simp only [ex]at cw cg
  have zz:qS e.vars= .sl e.vars.length fun i=>vaC (e.vars.getD i default):=rfl
  simp (disch:=omega) only [List.replicate,zz,vaC,k1,ex,go_sem]
  repeat' first
   |((first|refine cA (cw _) ?_ ?_|refine cG (fun e=>cw _) ?_ ?_|refine cA (cg _) ?_ ?_|refine cG (fun e=>cg _) ?_ ?_|refine cU (fun _=>cw _) ?_ ?_|refine cU (fun _=>cg _) ?_ ?_);(next=>exact flk);simp (disch:=omega) only [zz,vaC,k1,ex,go_sem])
   |((first|apply qc|apply qb);exact rvk;simp only [go_sem];first|exact VLe.refl _|apply qd|apply qa|apply qe|skip)
   |with_reducible first|refine And.intro ?_ ?_|intro _
  all_goals try exact clz
  refine hK _ _ (i+1) hi (by omega) (Wk.temps ?_)
  (simp only [List.replicate,zz,go_sem,qj,qh,qg,qi];try (repeat' first|(with_reducible refine And.intro ?_ ?_)|(apply qd;omega)|(apply qa;rfl)|exact VLe.refl _))
 ·have k1:((i:Int)<e.vars.length)=False:=eq_false (by omega)
  simp (disch:=omega) only [List.replicate,k1,zv1,zv2,go_sem]
  repeat' first
   |((first|apply qc|apply qb);exact rvk;simp only [go_sem];first|exact VLe.refl _|apply qd|apply qa|apply qe|skip)
   |with_reducible first|refine And.intro ?_ ?_|intro _
  all_goals try exact clz
structure EqZ (l:List En):Prop where
 n:l.length≤1000000000
 s: ∀i,(l.getD i default).sup.length≤1000000000
 v: ∀i,(l.getD i default).vars.length≤1000000000
 w: ∀i j,((l.getD i default).vars.getD j default).words.length≤1000000000
 g: ∀i j,((l.getD i default).vars.getD j default).sigla.length≤1000000000
theorem qz7 (l:List En) (h:List AObj) (hz:EqZ l):qm Tryz.prog 36 [qz l,qz l] h (.bool true) h:=by
 have c68:=fun i h=>qAa (l.getD i default) h (hz.s i) (hz.v i) (hz.w i) (hz.g i)
 have hn:=hz.n
 refine acO qxr ?_
 simp (disch:=omega) only [qyC,List.replicate,qz,go_sem]
 repeat' first
  |((first|apply qc|apply qb);exact rvk;simp only [go_sem];first|exact VLe.refl _|apply qd|apply qa|apply qe|skip)
  |with_reducible first|refine And.intro ?_ ?_|intro _
 all_goals try exact clz
 refine qo (T:=fun i:Nat=>qI 27 [(0,qz l),(1,qz l),(5,.int .i64 i)]) (H:=fun _=>h) (inv:=fun i=>i≤l.length) (m:=fun i=>l.length-i) 0 (Nat.zero_le _) (Wk.temps ?_) ?_
 ·(simp only [qz,List.replicate,go_sem,qj,qh,qg,qi];try (repeat' first|(with_reducible refine And.intro ?_ ?_)|(apply qd;omega)|(apply qa;rfl)|exact VLe.refl _))
 rintro i i1 K hK
 by_cases hi:i<l.length
 ·have k1:((i:Int)<l.length)=True:=eq_true (by omega)
  have c68:=c68 i
  obtain ⟨x,hx⟩: ∃x,x=l.getD i default:=⟨_,rfl⟩
  have ex:=hx.symm
  simp only [ex]at c68
  unfold enC at c68
  simp (disch:=omega) only [List.replicate,qz,enC,k1,ex,go_sem]
  repeat' first
   |((first|refine cA (c68 _) ?_ ?_|refine cG (fun e=>c68 _) ?_ ?_|refine cU (fun _=>c68 _) ?_ ?_);(next=>exact flk);simp (disch:=omega) only [qz,enC,k1,ex,go_sem])
   |((first|apply qc|apply qb);exact rvk;simp only [go_sem];first|exact VLe.refl _|apply qd|apply qa|apply qe|skip)
   |with_reducible first|refine And.intro ?_ ?_|intro _
  all_goals try exact clz
  refine hK _ _ (i+1) hi (by omega) (Wk.temps ?_)
  (simp only [qz,List.replicate,go_sem,qj,qh,qg,qi];try (repeat' first|(with_reducible refine And.intro ?_ ?_)|(apply qd;omega)|(apply qa;rfl)|exact VLe.refl _))
 ·have k1:((i:Int)<l.length)=False:=eq_false (by omega)
  simp (disch:=omega) only [List.replicate,qz,k1,go_sem]
  repeat' first
   |((first|apply qc|apply qb);exact rvk;simp only [go_sem];first|exact VLe.refl _|apply qd|apply qa|apply qe|skip)
   |with_reducible first|refine And.intro ?_ ?_|intro _
  all_goals try exact clz
end RC
end
section
open Go Go.Proofs AF
def qrs:List Nat:= [93,74,79,120,147,148,161,170,63,105,131,64,31,32,57,58,29,30,67]
def qwS:C:=
 ((C.ops [ON 8 (.nilo 0 6 49) [],MC 9 (i6 0)]).seq (((C.ops [MV 24 0,MV 25 1,O2 26 (.call 49 true) 24 25,BC 27 .neq 26 (i6 0)]).seq (C.cond (.t 27) ((C.ops [ON 8 (.nilo 0 6 49)
 [],MC 9 (i6 1)]).seq C.ret) C.skip)).seq (((C.ops [MV 28 2,O1 29 .len 28,BC 30 .gtr 29 (i6 4096)]).seq (C.cond (.t 30) ((C.ops [ON 8 (.nilo 0 6 49) [],MC 9 (i6 4)]).seq C.ret)
 C.skip)).seq (((C.ops [MC 10 (i6 0)]).seq (C.block 0 (((C.ops [MV 31 10,MV 32 2,O1 33 .len 32,BI 34 .lss 31 33]).seq (C.cond (.t 34) C.skip (C.exit 0))).seq ((C.block 1 (((C.ops
 [MV 38 0,MV 39 1,MV 40 2,MV 41 10,O2 42 (.idxA 6) 40 41,O1 43 (.load (some 6)) 42,ON 44 (.call 40 true) [.t 38,.t 39,.t 43],MV 37 44,O1 45 (.ext 0) 37,O1 46 (.ext 1) 37,
 MV 11 45,MV 12 46]).seq ((C.ops [MV 47 12,BC 48 .neq 47 (i6 0)]).seq (C.cond (.t 48) ((C.ops [MV 49 12,ON 8 (.nilo 0 6 49) [],MV 9 49]).seq C.ret) C.skip))).seq ((C.ops [MV 51
 0,MV 52 1,MV 53 2,MV 54 10,O2 55 (.idxA 6) 53 54,O1 56 (.fldA 4) 55,LD 57 56,ON 58 (.call 28 true) [.t 51,.t 52,.t 57],MV 50 58,O1 59 (.ext 0) 50,O1 60 (.ext 1) 50,MV
 13 59,MV 14 60]).seq ((C.ops [MV 61 14,BC 62 .neq 61 (i6 0)]).seq (C.cond (.t 62) ((C.ops [MV 63 14,ON 8 (.nilo 0 6 49) [],MV 9 63]).seq C.ret) C.skip))))).seq (C.ops [MV 35
 10,BC 36 .add 35 (i6 1),MV 10 36]))).loop)).seq ((C.ops [⟨some 64,none,.bslc 1 6 0 49 [i6 0,i6 0,i6 0,.bool false,.nl,.nl] [],[]⟩,MV 15 64]).seq (((C.ops [MC 16 (i6
 0)]).seq (C.block 2 (((C.ops [MV 65 16,MV 66 2,O1 67 .len 66,BI 68 .lss 65 67]).seq (C.cond (.t 68) C.skip (C.exit 2))).seq ((C.block 3 (((C.ops [MV 71 2,MV 72 16,O2 73 (.idxA
 6) 71 72,O1 74 (.fldA 0) 73,LD 75 74,MV 76 3,BI 77 .gtr 75 76]).seq (C.cond (.t 77) (C.exit 3) C.skip)).seq ((C.ops [MV 78 2,MV 79 16,O2 80 (.idxA 6) 78 79,O1 81 (.load
 (some 6)) 80,O1 82 (.call 65 true) 81,⟨some 17,none,.alloc 2 49 [i6 0,i6 0,i6 0,.bool false,.nl,.nl],[]⟩,ST 6 17 82]).seq ((C.ops [⟨some 83,none,.bslc 3 1 0 3 [i6 0]
 [],[]⟩,MV 18 83]).seq (((C.ops [MC 19 (i6 0)]).seq (C.block 4 (((C.ops [MV 84 19,MV 85 2,O1 86 .len 85,BI 87 .lss 84 86]).seq (C.cond (.t 87) C.skip (C.exit 4))).seq ((C.block
 5 ((C.ops [MV 90 2,MV 91 19,O2 92 (.idxA 6) 90 91,O1 93 (.fldA 0) 92,LD 94 93,MV 95 3,BI 96 .gtr 94 95,MV 97 96,MG 98 97 true 2,MG 99 97 true 19,P2 100 97 true (.idxA 6)
 98 99,P1 101 97 true (.fldA 1) 100,P1 102 97 true (.load none) 101,P1 103 97 true (.fldA 1) 17,P1 104 97 true (.load none) 103,P2 105 97 true (.bin .eql) 102 104,PF 106 97
 105,MV 107 106,MG 108 107 true 2,MG 109 107 true 19,P2 110 107 true (.idxA 6) 108 109,P1 111 107 true (.fldA 2) 110,P1 112 107 true (.load none) 111,P1 113 107 true (.fldA
 2) 17,P1 114 107 true (.load none) 113,P2 115 107 true (.bin .eql) 112 114,PF 116 107 115]).seq (C.cond (.t 116) ((C.ops [MV 118 0,MV 119 1,MV 120 2,MV 121 19,O2 122 (.idxA
 6) 120 121,O1 123 (.load (some 6)) 122,ON 124 (.call 40 true) [.t 118,.t 119,.t 123],MV 117 124,O1 125 (.ext 0) 117,O1 126 (.ext 1) 117,MV 20 125,MV 21 126]).seq (C.ops
 [MV 127 18,MV 128 20,O2 129 (.app 4 1 3 8) 127 128,MV 18 129])) C.skip))).seq (C.ops [MV 88 19,BC 89 .add 88 (i6 1),MV 19 89]))).loop)).seq (((C.ops [O1 130 (.fldA 3) 17,LD
 131 130,MV 132 131,MG 133 132 true 18,P1 134 132 true .len 133,PC 135 132 true (.bin .gtr) 134 (i6 0),PF 136 132 135]).seq (C.cond (.t 136) ((C.ops [MV 138 0,MV 139 1,O1 140
 (.fldA 4) 17,LD 141 140,ON 142 (.call 28 true) [.t 138,.t 139,.t 141],MV 137 142,O1 143 (.ext 0) 137,O1 144 (.ext 1) 137,MV 22 143,MV 23 144]).seq (C.ops [MV 146 0,MV 147
 1,MV 148 0,O1 149 .len 148,MV 150 22,MV 151 18,ON 152 (.call 67 false) [.t 149,.t 150,.t 151],ON 153 (.call 66 true) [.t 146,.t 147,.t 152],MV 145 153,O1 154 (.ext 0)
 145,O1 155 (.ext 1) 145,O1 156 (.fldA 4) 17,ST 1 156 154])) C.skip)).seq (C.ops [MV 157 15,O1 158 (.load (some 6)) 17,⟨some 159,none,.bslc 5 6 1 49 [i6 0,i6 0,i6 0,.bool
 false,.nl,.nl] [(0,6)],[.t 158]⟩,O2 160 (.app 6 6 49 80) 157 159,MV 15 160]))))))).seq (C.ops [MV 69 16,BC 70 .add 69 (i6 1),MV 16 70]))).loop)).seq ((C.ops [MV 161 15,MV
 8 161,MC 9 (i6 0)]).seq
 C.ret)))))))
theorem quT:qM Tryz.prog 35 162 7 [RV.tmp 8,RV.tmp 9] qwS:=fi Tryz.f35 [8,64,17,83,129,159,160] qrs [] (by kernel_rfl) (by kernel_rfl) (by kernel_rfl) (by kernel_rfl)
end
section
open Go Go.Proofs AF HY LN
namespace RC
set_option maxHeartbeats 16000000
theorem qsu (names:List Str) (gs:List Gr) (l:List En) (layer:Int) (e:En):qP (fun k=>decide ((k:Int)∈zI names gs e.sup)||decide ((k:Int)∈mrA names gs l layer e)) names.length=qlQ names gs l layer e:=by
 unfold qlQ
 congr 1
 funext k
 rw [←Bool.decide_or]
 refine decide_eq_decide.2 ?_
 rw [List.mem_append]
 exact Or.comm
theorem qvq {b:Int} {l:List Int} (h: ∀x∈l,0≤x∧x<b):inB b l:=fun i hi=>by
 rw [gdqA,q9 hi]
 exact h _ (List.getElem_mem hi)
theorem qz6 (names:List Str) (gs:List Gr) (l:List En) (layer:Int) (h:List AObj) (hc:RZ names gs l) (gm: ∀i,(gs.getD i default).mem.length≤1000) (wl: ∀i j,((l.getD i default).vars.getD j default).words.length≤1000000):
  qm Tryz.prog 35 [strs names,qv gs,qz l,.int .i64 layer] h (.tup [qz (rsR names gs l layer),.int .i64 (rsE names gs l)]) h:=by
 have c49:=fun h=>sgR names gs h hc.hz
 have hln:=hc.hl
 obtain ⟨R,hR⟩: ∃R,R=rsE names gs l:=⟨_,rfl⟩
 have hLR:rsR names gs l layer=if R=0 then rsL names gs l layer l.length else []:=by rw [hR];rfl
 rw [hLR,←hR]
 unfold rsE at hR
 have nl0:VLe AV.nl (qz []):=zQ
 have h8:=hc.s8
 obtain ⟨s,hs⟩: ∃s,s=sgE names gs:=⟨_,rfl⟩
 rw [←hs]at c49 hR h8
 by_cases g0:s≠0
 ·have k0:(s=0)=False:=eq_false g0
  rw [if_pos g0]at hR
  rw [hR,if_neg (by decide)]
  refine acO quT ?_
  simp (disch:=omega) only [qwS,List.replicate,go_sem]
  repeat' first
   |((first|refine cA (c49 _) ?_ ?_|refine cG (fun e=>c49 _) ?_ ?_|refine cU (fun _=>c49 _) ?_ ?_);(next=>exact flk);simp (disch:=omega) only [k0,go_sem])
   |((first|apply qc|apply qb);exact rvk;simp only [go_sem];first|exact VLe.refl _|apply qd|apply qa|apply qe|skip)
   |with_reducible first|refine And.intro ?_ ?_|intro _
  all_goals try exact clz
  exact qK ⟨nl0,VLe.refl _,trivial⟩
 have g0:s=0:=Classical.not_not.1 g0
 have k0:(s=0)=True:=eq_true g0
 obtain ⟨n8,g8⟩:=h8 g0
 rw [if_neg (fun hc=>hc g0),if_neg (by omega)]at hR
 have k1:((4096:Int)<l.length)=False:=eq_false (by omega)
 refine acO quT ?_
 simp (disch:=omega) only [qwS,List.replicate,qz,go_sem]
 repeat' first
  |((first|refine cA (c49 _) ?_ ?_|refine cG (fun e=>c49 _) ?_ ?_|refine cU (fun _=>c49 _) ?_ ?_);(next=>exact flk);simp (disch:=omega) only [k0,k1,qz,go_sem])
  |((first|apply qc|apply qb);exact rvk;simp only [go_sem];first|exact VLe.refl _|apply qd|apply qa|apply qe|skip)
  |with_reducible first|refine And.intro ?_ ?_|intro _
 all_goals try exact clz
 refine qo (T:=fun i:Nat=>qI 162 [(0,strs names),(1,qv gs),(2,qz l),(3,.int .i64 layer),(10,.int .i64 i)])
  (H:=fun _=>h++ [.emp 1,.emp 0,.emp 0,.emp 0,.emp 0,.emp 0,.emp 0])
  (inv:=fun i=>i≤l.length∧ ∀k,k<i→qor names gs l k=0) (m:=fun i=>l.length-i) 0 ⟨Nat.zero_le _,fun j hj=>absurd hj (Nat.not_lt_zero j)⟩ (Wk.temps ?_) ?_
 ·(simp only [qz,List.replicate,go_sem,qj,qh,qg,qi];try (repeat' first|(with_reducible refine And.intro ?_ ?_)|(apply qd;omega)|(apply qa;rfl)|exact VLe.refl _))
 rintro i ⟨i1,i2⟩ K hK
 by_cases hi:i<l.length
 ·have r1:((i:Int)<l.length)=True:=eq_true (by omega)
  have hE:=qU (f:=qor names gs l) hi i2
  have hat:qor names gs l i=if vsE names gs (l.getD i default)≠0 then vsE names gs (l.getD i default) else jR names gs (l.getD i default).sup:=rfl
  have c40:=fun h=>vsR names gs (l.getD i default) h hc.hz (by have:=hc.vl i;omega) (fun j=>hc.sg i j) gm
  have c28:=fun h=>qq0 names gs (l.getD i default).sup h hc.hz (hc.sp i) gm
  obtain ⟨x,hx⟩: ∃x,x=l.getD i default:=⟨_,rfl⟩
  have ex:=hx.symm
  rw [ex]at hat
  simp only [ex]at c40 c28
  obtain ⟨y,hy⟩: ∃y,y=vsE names gs x:=⟨_,rfl⟩
  obtain ⟨z,hz⟩: ∃z,z=jR names gs x.sup:=⟨_,rfl⟩
  rw [←hy,←hz]at hat
  rw [←hy]at c40
  rw [←hz]at c28
  unfold enC at c40
  by_cases a1:y≠0
  ·have q1:(y=0)=False:=eq_false a1
   rw [if_pos a1]at hat
   rw [hE (by rw [hat];exact a1),hat]at hR
   rw [hR,if_neg a1]
   simp (disch:=omega) only [List.replicate,qz,enC,r1,ex,go_sem]
   repeat' first
    |((first|refine cA (c40 _) ?_ ?_|refine cG (fun e=>c40 _) ?_ ?_|refine cU (fun _=>c40 _) ?_ ?_);(next=>exact flk);simp (disch:=omega) only [qz,enC,r1,ex,q1,go_sem])
    |((first|apply qc|apply qb);exact rvk;simp only [go_sem];first|exact VLe.refl _|apply qd|apply qa|apply qe|skip)
    |with_reducible first|refine And.intro ?_ ?_|intro _
   all_goals try exact clz
   exact qK ⟨nl0,VLe.refl _,trivial⟩
  have a1:y=0:=Classical.not_not.1 a1
  have q1:(y=0)=True:=eq_true a1
  rw [if_neg (fun hc=>hc a1)]at hat
  by_cases a2:z≠0
  ·have q2:(z=0)=False:=eq_false a2
   rw [hE (by rw [hat];exact a2),hat]at hR
   rw [hR,if_neg a2]
   simp (disch:=omega) only [List.replicate,qz,enC,r1,ex,go_sem]
   repeat' first
    |((first|refine cA (c40 _) ?_ ?_|refine cG (fun e=>c40 _) ?_ ?_|refine cA (c28 _) ?_ ?_|refine cG (fun e=>c28 _) ?_ ?_|refine cU (fun _=>c40 _) ?_ ?_|refine cU (fun _=>c28 _) ?_ ?_);(next=>exact flk);simp (disch:=omega) only [qz,enC,r1,ex,q1,q2,go_sem])
    |((first|apply qc|apply qb);exact rvk;simp only [go_sem];first|exact VLe.refl _|apply qd|apply qa|apply qe|skip)
    |with_reducible first|refine And.intro ?_ ?_|intro _
   all_goals try exact clz
   exact qK ⟨nl0,VLe.refl _,trivial⟩
  have a2:z=0:=Classical.not_not.1 a2
  have q2:(z=0)=True:=eq_true a2
  rw [a2]at hat
  simp (disch:=omega) only [List.replicate,qz,enC,r1,ex,go_sem]
  repeat' first
   |((first|refine cA (c40 _) ?_ ?_|refine cG (fun e=>c40 _) ?_ ?_|refine cA (c28 _) ?_ ?_|refine cG (fun e=>c28 _) ?_ ?_|refine cU (fun _=>c40 _) ?_ ?_|refine cU (fun _=>c28 _) ?_ ?_);(next=>exact flk);simp (disch:=omega) only [qz,enC,r1,ex,q1,q2,go_sem])
   |((first|apply qc|apply qb);exact rvk;simp only [go_sem];first|exact VLe.refl _|apply qd|apply qa|apply qe|skip)
   |with_reducible first|refine And.intro ?_ ?_|intro _
  all_goals try exact clz
  refine hK _ _ (i+1) ⟨hi,fun k hk=> ?_⟩ (by omega) (Wk.temps ?_)
  ·by_cases e':k=i
   ·subst e';exact hat
   ·exact i2 k (by omega)
  (simp only [qz,List.replicate,go_sem,qj,qh,qg,qi];try (repeat' first|(with_reducible refine And.intro ?_ ?_)|(apply qd;omega)|(apply qa;rfl)|exact VLe.refl _))
 obtain rfl:i=l.length:=by omega
 have r1:((l.length:Int)<l.length)=False:=eq_false (by omega)
 rw [qE (f:=qor names gs l) i2]at hR
 rw [hR,if_pos rfl]
 clear hK
 have zl1: ∀g,valL g .len [qz l]= .int .i64 l.length:=fun _=>rfl
 have zl2: ∀g,okL g .len [qz l]=True:=fun _=>eq_true trivial
 simp (disch:=omega) only [List.replicate,r1,zl1,zl2,go_sem]
 repeat' first
  |((first|apply qc|apply qb);exact rvk;simp only [go_sem];first|exact VLe.refl _|apply qd|apply qa|apply qe|skip)
  |with_reducible first|refine And.intro ?_ ?_|intro _
 all_goals try exact clz
 have eM0:za [.int .i64 0,.int .i64 0,.int .i64 0,.bool false,.nl,.nl] 0=zA (rsL names gs l layer 0):=rfl
 try rw [eM0]
 refine qo (T:=fun s:Nat×Nat×AObj×AObj×AObj=>qI 162 [(0,strs names),(1,qv gs),(2,qz l),(3,.int .i64 layer),(15,.osl (h.length+1) s.2.1 6 0 (rsL names gs l layer s.1).length),(16,.int .i64 s.1)])
  (H:=fun s=>h++ [.emp 1,.mem s.2.1 49 (zA (rsL names gs l layer s.1)),s.2.2.1,s.2.2.2.1,.emp 0,s.2.2.2.2,.emp 0])
  (inv:=fun s=>s.1≤l.length∧qD [s.2.2.1] 0=true∧qD [s.2.2.2.1] 0=true∧qD [s.2.2.2.2] 0=true) (m:=fun s=>l.length-s.1) (0,1,.emp 0,.emp 0,.emp 0) ⟨Nat.zero_le _,rfl,rfl,rfl⟩ (Wk.temps ?_) ?_
 ·(simp only [qz,List.replicate,rsL,List.length_nil,go_sem,qj,qh,qg,qi];try (repeat' first|(with_reducible refine And.intro ?_ ?_)|(apply qd;omega)|(apply qa;rfl)|exact VLe.refl _))
 rintro ⟨i,w,O2,O3,O5⟩ ⟨i1,p2,p3,p5⟩ K hK
 simp only at i1 p2 p3 p5 hK
 have p2': ∀m,qD (O2::m) 0=true:=fun _=>p2
 have p3': ∀m,qD (O3::m) 0=true:=fun _=>p3
 have p5': ∀m,qD (O5::m) 0=true:=fun _=>p5
 by_cases hi:i<l.length
 ·have r1:((i:Int)<l.length)=True:=eq_true (by omega)
  have hst:rsL names gs l layer (i+1)=rsL names gs l layer i++if (l.getD i default).layer≤layer then [j8 names gs l layer (l.getD i default)] else []:=rfl
  have hmn:=qc3 names gs l layer (l.getD i default) l.length
  have hLn:=qe3 names gs l layer i
  have c65:=fun h=>qzF (l.getD i default) h (by have:=hc.sp i;omega) (by have:=hc.vl i;omega) (fun j=>by have:=wl i j;omega) (fun j=>by have:=hc.sg i j;omega)
  have c28:=fun h=>qq0 names gs (l.getD i default).sup h hc.hz (hc.sp i) gm
  obtain ⟨L,hL⟩: ∃L,L=rsL names gs l layer i:=⟨_,rfl⟩
  have eL:=hL.symm
  rw [eL]at hst hLn
  have eC:=zV L
  have eTk:List.take (L.length*6) (zA L)=zA L:=List.take_of_length_le (by rw [zV];omega)
  obtain ⟨x,hx⟩: ∃x,x=l.getD i default:=⟨_,rfl⟩
  have ex:=hx.symm
  rw [ex]at hst hmn
  simp only [ex]at c65 c28
  have hwl:=qaj (names:=names) (gs:=gs) (sg:=x.sup)
  have hWB:= @qbz names gs x.sup
  obtain ⟨W,hW⟩: ∃W,W=zI names gs x.sup:=⟨_,rfl⟩
  rw [←hW]at c28 hwl hWB
  unfold enC at c65
  by_cases a1:layer<x.layer
  ·have q1:(layer<x.layer)=True:=eq_true a1
   rw [if_neg (by omega),List.append_nil]at hst
   simp (disch:=omega) only [List.replicate,qz,enC,r1,ex,eL,p2',p3',p5',go_sem]
   repeat' first
    |((first|apply qc|apply qb);exact rvk;simp only [go_sem];first|exact VLe.refl _|apply qd|apply qa|apply qe|skip)
    |with_reducible first|refine And.intro ?_ ?_|intro _
   all_goals try exact clz
   refine hK _ _ (i+1,w,O2,O3,O5) ⟨hi,p2,p3,p5⟩ (by simp only;omega) ?_
   simp only [hst]
   refine Wk.temps ?_
   (simp only [qz,List.replicate,go_sem,qj,qh,qg,qi];try (repeat' first|(with_reducible refine And.intro ?_ ?_)|(apply qd;omega)|(apply qa;rfl)|exact VLe.refl _))
  have q1:(layer<x.layer)=False:=eq_false a1
  rw [if_pos (by omega)]at hst
  simp (disch:=omega) only [List.replicate,qz,enC,r1,ex,eL,p2',p3',p5',go_sem]
  repeat' first
   |((first|refine cA (c65 _) ?_ ?_|refine cG (fun e=>c65 _) ?_ ?_|refine cU (fun _=>c65 _) ?_ ?_);(next=>exact flk);simp (disch:=omega) only [qz,enC,r1,ex,eL,p2',p3',p5',q1,go_sem])
   |((first|apply qc|apply qb);exact rvk;simp only [go_sem];first|exact VLe.refl _|apply qd|apply qa|apply qe|skip)
   |with_reducible first|refine And.intro ?_ ?_|intro _
  all_goals try exact clz
  have eM1:za [AV.int .i64 0] 0=qn (mrL names gs l layer x 0):=rfl
  try rw [eM1]
  refine qo (T:=fun s:Nat×Nat=>qI 162 [(0,strs names),(1,qv gs),(2,qz l),(3,.int .i64 layer),(15,.osl (h.length+1) w 6 0 L.length),(16,.int .i64 i),(17,.op (h.length+2) (qs (some O2)+1) 0),(18,.osl (h.length+3) s.2 1 0 (mrL names gs l layer x s.1).length),(19,.int .i64 s.1)])
   (H:=fun s=>h++ [.emp 1,.mem w 49 (zA L),.mem (qs (some O2)+1) 49 [.int .i64 x.layer,.int .i64 x.frm,.int .i64 x.to,.bool x.pos,strs x.sup,qS x.vars],.mem s.2 3 (qn (mrL names gs l layer x s.1)),.emp 0,O5,.emp 0])
   (inv:=fun s=>s.1≤l.length) (m:=fun s=>l.length-s.1) (0,qs (some O3)+1) (Nat.zero_le _) (Wk.temps ?_) ?_
  ·(simp only [qz,List.replicate,mrL,List.length_nil,go_sem,qj,qh,qg,qi];try (repeat' first|(with_reducible refine And.intro ?_ ?_)|(apply qd;omega)|(apply qa;rfl)|exact VLe.refl _))
  rintro ⟨k,u⟩ m1 KA hKA
  simp only at m1 hKA
  by_cases hk:k<l.length
  ·have t1:((k:Int)<l.length)=True:=eq_true (by omega)
   have hms:mrL names gs l layer x (k+1)=mrL names gs l layer x k++if mrB l layer x k=true then vsL names gs (l.getD k default) else []:=rfl
   have hmk:=qc3 names gs l layer x k
   have hmb:mrB l layer x k=(decide (layer<(l.getD k default).layer)&&(decide ((l.getD k default).frm=x.frm)&&decide ((l.getD k default).to=x.to))):=rfl
   have c40:=fun h=>vsR names gs (l.getD k default) h hc.hz (by have:=hc.vl k;omega) (fun j=>hc.sg k j) gm
   have hvl:(vsL names gs (l.getD k default)).length≤32:=by
    unfold vsL
    split
    ·exact qF _ _
    ·exact Nat.zero_le _
   obtain ⟨M,hM⟩: ∃M,M=mrL names gs l layer x k:=⟨_,rfl⟩
   have eM:=hM.symm
   rw [eM]at hms hmk
   obtain ⟨y,hy⟩: ∃y,y=l.getD k default:=⟨_,rfl⟩
   have ey:=hy.symm
   rw [ey]at hms hmb hvl
   simp only [ey]at c40
   obtain ⟨V,hV⟩: ∃V,V=vsL names gs y:=⟨_,rfl⟩
   rw [←hV]at hms hvl c40
   unfold enC at c40
   have skip:mrB l layer x k=false→mrL names gs l layer x (k+1)=M:=fun hb=>by rw [hms,hb,if_neg (by simp),List.append_nil]
   by_cases b1:layer<y.layer
   case neg=>
    have u1:(layer<y.layer)=False:=eq_false b1
    have hmm:=skip (by rw [hmb,decide_eq_false b1,Bool.false_and])
    simp (disch:=omega) only [List.replicate,qz,enC,t1,ey,eM,go_sem]
    repeat' first
     |((first|apply qc|apply qb);exact rvk;simp only [go_sem];first|exact VLe.refl _|apply qd|apply qa|apply qe|skip)
     |with_reducible first|refine And.intro ?_ ?_|intro _
    all_goals try exact clz
    refine hKA _ _ (k+1,u) hk (by simp only;omega) ?_
    simp only [hmm]
    refine Wk.temps ?_
    (simp only [qz,List.replicate,go_sem,qj,qh,qg,qi];try (repeat' first|(with_reducible refine And.intro ?_ ?_)|(apply qd;omega)|(apply qa;rfl)|exact VLe.refl _))
   have u1:(layer<y.layer)=True:=eq_true b1
   by_cases b2:y.frm=x.frm
   case neg=>
    have u2:(y.frm=x.frm)=False:=eq_false b2
    have hmm:=skip (by rw [hmb,decide_eq_false b2,Bool.false_and,Bool.and_false])
    simp (disch:=omega) only [List.replicate,qz,enC,t1,ey,eM,go_sem]
    repeat' first
     |((first|apply qc|apply qb);exact rvk;simp only [go_sem];first|exact VLe.refl _|apply qd|apply qa|apply qe|skip)
     |with_reducible first|refine And.intro ?_ ?_|intro _
    all_goals try exact clz
    refine hKA _ _ (k+1,u) hk (by simp only;omega) ?_
    simp only [hmm]
    refine Wk.temps ?_
    (simp only [qz,List.replicate,go_sem,qj,qh,qg,qi];try (repeat' first|(with_reducible refine And.intro ?_ ?_)|(apply qd;omega)|(apply qa;rfl)|exact VLe.refl _))
   have u2:(y.frm=x.frm)=True:=eq_true b2
   by_cases b3:y.to=x.to
   case neg=>
    have u3:(y.to=x.to)=False:=eq_false b3
    have hmm:=skip (by rw [hmb,decide_eq_false b3,Bool.and_false,Bool.and_false])
    simp (disch:=omega) only [List.replicate,qz,enC,t1,ey,eM,go_sem]
    repeat' first
     |((first|apply qc|apply qb);exact rvk;simp only [go_sem];first|exact VLe.refl _|apply qd|apply qa|apply qe|skip)
     |with_reducible first|refine And.intro ?_ ?_|intro _
    all_goals try exact clz
    refine hKA _ _ (k+1,u) hk (by simp only;omega) ?_
    simp only [hmm]
    refine Wk.temps ?_
    (simp only [qz,List.replicate,go_sem,qj,qh,qg,qi];try (repeat' first|(with_reducible refine And.intro ?_ ?_)|(apply qd;omega)|(apply qa;rfl)|exact VLe.refl _))
   have u3:(y.to=x.to)=True:=eq_true b3
   rw [if_pos (by rw [hmb,decide_eq_true b1,decide_eq_true b2,decide_eq_true b3];rfl)]at hms
   have eS:=fun h=>qdf h V
   have eCM:=qt M
   have eCV:=qt V
   have eTM:List.take M.length (qn M)=qn M:=List.take_of_length_le (by omega)
   simp (disch:=omega) only [List.replicate,qz,enC,t1,ey,eM,eS,eCM,eCV,eTM,Nat.mul_one,go_sem]
   repeat' first
    |((first|refine cA (c40 _) ?_ ?_|refine cG (fun e=>c40 _) ?_ ?_|refine cU (fun _=>c40 _) ?_ ?_);(next=>exact flk);simp (disch:=omega) only [qz,enC,t1,ey,eM,u1,u2,u3,eS,eCM,eCV,eTM,Nat.mul_one,go_sem])
    |((first|apply qc|apply qb);exact rvk;simp only [go_sem];first|exact VLe.refl _|apply qd|apply qa|apply qe|skip)
    |with_reducible first|refine And.intro ?_ ?_|intro _
   all_goals try exact clz
   all_goals try (exact kS _)
   refine hKA _ _ (k+1,u+1) hk (by simp only;omega) ?_
   simp only [hms,List.length_append,qG]
   refine Wk.temps ?_
   (simp only [qz,List.replicate,go_sem,qj,qh,qg,qi];try (repeat' first|(with_reducible refine And.intro ?_ ?_)|(apply qd;omega)|(apply qa;rfl)|exact VLe.refl _))
  obtain rfl:k=l.length:=by omega
  have t1:((l.length:Int)<l.length)=False:=eq_false (by omega)
  clear hKA
  have hMB:inB names.length (mrL names gs l layer x l.length):=qvq fun z hz=>qkj _ hz
  have hUn:=qsu names gs l layer x
  have hmA0:mrA names gs l layer x=mrL names gs l layer x l.length:=rfl
  rw [hmA0,←hW]at hUn
  obtain ⟨M,hM⟩: ∃M,M=mrL names gs l layer x l.length:=⟨_,rfl⟩
  have eM:=hM.symm
  rw [eM]at hmn hMB hUn ⊢
  have hmA:mrA names gs l layer x=M:=eM
  have tail:j8 names gs l layer x=x→x.pos=false∨M= []→True:=fun _ _=>trivial
  cases hpos:x.pos with
  |false=>
   have h1:j8 names gs l layer x=x:=if_neg (by rw [hpos];simp)
   rw [h1]at hst
   simp (disch:=omega) only [List.replicate,qz,enC,t1,p5',hpos,eC,eTk,go_sem]
   repeat' first
    |((first|apply qc|apply qb);exact rvk;simp only [go_sem];first|exact VLe.refl _|apply qd|apply qa|apply qe|skip)
    |with_reducible first|refine And.intro ?_ ?_|intro _
   all_goals try exact clz
   try rw [eTk]
   refine hK _ _ (i+1,w+1,.mem (qs (some O2)+1) 49 (enC x),.mem u 3 (qn M),.mem (qs (some O5)+1) 49 (enC x)) ⟨hi,rfl,rfl,rfl⟩ (by simp only;omega) ?_
   have eA:zA (L++ [x])=zA L++enC x:=by rw [ju];simp [zA]
   simp only [hst,eA,List.length_append,List.length_cons,List.length_nil]
   unfold enC
   rw [hpos]
   refine Wk.temps ?_
   (simp only [qz,List.replicate,enC,go_sem,qj,qh,qg,qi];try (repeat' first|(with_reducible refine And.intro ?_ ?_)|(apply qd;omega)|(apply qa;rfl)|exact VLe.refl _))
  |true=>
  by_cases a2:M.length=0
  ·have q2:(0<(M.length:Int))=False:=eq_false (by omega)
   have h1:j8 names gs l layer x=x:=if_neg (fun hc=>hc.2 (by rw [hmA];exact List.eq_nil_of_length_eq_zero a2))
   rw [h1]at hst
   simp (disch:=omega) only [List.replicate,qz,enC,t1,p5',q2,hpos,eC,eTk,go_sem]
   repeat' first
    |((first|apply qc|apply qb);exact rvk;simp only [go_sem];first|exact VLe.refl _|apply qd|apply qa|apply qe|skip)
    |with_reducible first|refine And.intro ?_ ?_|intro _
   all_goals try exact clz
   try rw [eTk]
   refine hK _ _ (i+1,w+1,.mem (qs (some O2)+1) 49 (enC x),.mem u 3 (qn M),.mem (qs (some O5)+1) 49 (enC x)) ⟨hi,rfl,rfl,rfl⟩ (by simp only;omega) ?_
   have eA:zA (L++ [x])=zA L++enC x:=by rw [ju];simp [zA]
   simp only [hst,eA,List.length_append,List.length_cons,List.length_nil]
   unfold enC
   rw [hpos]
   refine Wk.temps ?_
   (simp only [qz,List.replicate,enC,go_sem,qj,qh,qg,qi];try (repeat' first|(with_reducible refine And.intro ?_ ?_)|(apply qd;omega)|(apply qa;rfl)|exact VLe.refl _))
  have q2:(0<(M.length:Int))=True:=eq_true (by omega)
  have hMn:M≠ []:=fun hc=>a2 (by rw [hc];rfl)
  have h1:j8 names gs l layer x= { x with sup:=shR names gs (qlQ names gs l layer x) }:=if_pos ⟨hpos,by rw [hmA];exact hMn⟩
  rw [h1]at hst
  have hUs:=qlR names gs l layer x
  obtain ⟨U,hU⟩: ∃U,U=qlQ names gs l layer x:=⟨_,rfl⟩
  rw [←hU]at hUn hUs hst
  have hsE:qbs names gs U=0:=by
   unfold qbs
   rw [if_pos (by rw [←hs];exact g0)]
   exact hUs
  have hUl:U.length≤names.length:=by rw [hU];exact qF _ _
  have c66:=fun h=>qz9 names gs U h hc.hz (by omega) (fun _=>⟨n8,g8⟩)
  rw [hsE]at c66
  obtain ⟨S,hS⟩: ∃S,S=shR names gs U:=⟨_,rfl⟩
  rw [←hS]at c66 hst
  have c67:=fun h=>qzZ names.length W M h (by omega) hWB.1 hMB (by omega) (by omega)
  rw [hUn]at c67
  have zn1: ∀g,valL g .len [strs names]= .int .i64 names.length:=fun _=>rfl
  have zn2: ∀g,okL g .len [strs names]=True:=fun _=>eq_true trivial
  simp (disch:=omega) only [List.replicate,qz,enC,t1,p5',q2,hpos,zn1,zn2,go_sem]
  repeat' first
   |((first|refine cA (c28 _) ?_ ?_|refine cG (fun e=>c28 _) ?_ ?_|refine cU (fun _=>c28 _) ?_ ?_);(next=>exact flk);simp (disch:=omega) only [qz,enC,t1,p5',q2,hpos,zn1,zn2,go_sem])
   |((first|apply qc|apply qb);exact rvk;simp only [go_sem];first|exact VLe.refl _|apply qd|apply qa|apply qe|skip)
   |with_reducible first|refine And.intro ?_ ?_|intro _
  all_goals try exact clz
  refine zh (qy7 [h.length+3] ?fz ((c67 _).le ?hv (VLe.refl _))) (by exact flk) ?_
  case fz=>simp only [zN,go_sem]
  case hv=>
   simp only [kK,List.map,go_sem]
   refine ⟨VLe.refl _,VLe.refl _,?_,trivial⟩
   rw [if_pos (by simp),if_pos (by simp)]
   rw [if_pos (by rw [qt];omega)]
   exact zr _ (fun _=>rfl) rfl
  simp only [kK,List.map,go_sem]
  repeat' first
   |((first|refine cA (c66 _) ?_ ?_|refine cG (fun e=>c66 _) ?_ ?_|refine cU (fun _=>c66 _) ?_ ?_);(next=>exact flk);simp (disch:=omega) only [p5',eC,eTk,go_sem])
   |((first|apply qc|apply qb);exact rvk;simp only [go_sem];first|exact VLe.refl _|apply qd|apply qa|apply qe|skip)
   |with_reducible first|refine And.intro ?_ ?_|intro _
  all_goals try exact clz
  try rw [eTk]
  refine hK _ _ (i+1,w+1,.mem (qs (some O2)+1) 49 (enC { x with sup:=S }),.emp (u+1),.mem (qs (some O5)+1) 49 (enC { x with sup:=S })) ⟨hi,rfl,rfl,rfl⟩ (by simp only;omega) ?_
  have eA2:zA (L++ [{ x with sup:=S }])=zA L++enC { x with sup:=S }:=by rw [ju];simp [zA]
  simp only [hst,eA2,List.length_append,List.length_cons,List.length_nil]
  unfold enC
  rw [hpos]
  refine Wk.temps ?_
  (simp only [qz,List.replicate,enC,go_sem,qj,qh,qg,qi];try (repeat' first|(with_reducible refine And.intro ?_ ?_)|(apply qd;omega)|(apply qa;rfl)|exact VLe.refl _))
 obtain rfl:i=l.length:=by omega
 have r1:((l.length:Int)<l.length)=False:=eq_false (by omega)
 obtain ⟨L,hL⟩: ∃L,L=rsL names gs l layer l.length:=⟨_,rfl⟩
 rw [←hL]
 have zl1: ∀g,valL g .len [qz l]= .int .i64 l.length:=fun _=>rfl
 have zl2: ∀g,okL g .len [qz l]=True:=fun _=>eq_true trivial
 simp (disch:=omega) only [List.replicate,r1,zl1,zl2,go_sem]
 repeat' first
  |((first|apply qc|apply qb);exact rvk;simp only [go_sem];first|exact VLe.refl _|apply qd|apply qa|apply qe|skip)
  |with_reducible first|refine And.intro ?_ ?_|intro _
 all_goals try exact clz
 rw [if_pos (by rw [zV];omega)]
 exact qK ⟨qm7 rfl,VLe.refl _,trivial⟩
end RC
end
section
open Go Go.Proofs AF HY LN
namespace RC
set_option maxHeartbeats 8000000
theorem qcQ {a b:En}:j7 a b=false↔a.to≤b.frm∧ ¬(a.frm=b.frm∧a.to=b.to):=by
 unfold j7
 rw [Bool.or_eq_false_iff,decide_eq_false_iff_not,Bool.and_eq_false_iff,decide_eq_false_iff_not,decide_eq_false_iff_not]
 omega
theorem qx5 {L:List En} (hs:L.Pairwise fun a b=>qce b a=false) (hr: ∀e∈L,e.frm≤e.to) (hc:jS L=false):L.Pairwise fun a b=>j7 a b=false:=by
 induction L with
 |nil=>exact List.Pairwise.nil
 |cons a r ih=>
  have h0:=qlD hs hc
  obtain ⟨h1,h2⟩:=List.pairwise_cons.1 hs
  have h3:=ih h2 (fun e he=>hr e (List.mem_cons_of_mem _ he)) (qcs hc)
  refine List.pairwise_cons.2 ⟨?_,h3⟩
  cases r with
  |nil=>intro z hz;cases hz
  |cons b r=>
   have hab:j7 a b=false:=by
    rw [jS,Bool.or_eq_false_iff]at hc
    exact hc.1
   intro z hz
   have g0:=kA.1 ((List.pairwise_cons.1 h0).1 z hz)
   rcases List.mem_cons.1 hz with rfl|hz'
   ·exact hab
   ·have g1:=qcQ.1 ((List.pairwise_cons.1 h3).1 z hz')
    have g2:=qcQ.1 hab
    have g3:=hr b (by simp)
    rw [qcQ]
    omega
theorem qfL: ∀ {L:List En},(L.Pairwise fun a b=>j7 a b=false)→jS L=false
 | [],_=>rfl
 | [_],_=>rfl
 |a::b::r,h=>by
  obtain ⟨h1,h2⟩:=List.pairwise_cons.1 h
  rw [jS,h1 b (by simp),qfL h2]
  rfl
theorem qg8 (names:List Str) (gs:List Gr) (l:List En) (src:Int) (p:En→Bool):ofE names gs (l.filter p) src=(ofE names gs l src).filter p:=by
 have h:=qdN qfJ qfI p l [] List.Pairwise.nil
 unfold ofE ja
 rw [List.filter_nil]at h
 rw [←h,List.filter_reverse,List.filter_reverse,List.filter_reverse,List.filter_filter,List.filter_filter]
 congr 2
 funext x
 exact Bool.and_comm _ _
theorem qx2 {names:List Str} {gs:List Gr} {t:List Str} {l:List En} (h:qp1 names gs t l) {s:Nat} (hs:s<names.length):(ofE names gs l (s:Int)).Pairwise fun a b=>j7 a b=false:=by
 refine qx5 (qg9 names gs l s) (fun e he=> ?_) (kM h.cl hs)
 have h1:e∈ja l:=(List.mem_filter.1 he).1
 have h2:=qcN.1 (h.ck e ((jP l).subset h1))
 exact h2.rng.2.1
theorem qp1.filter {names:List Str} {gs:List Gr} {t:List Str} {l:List En} (h:qp1 names gs t l) (p:En→Bool):qp1 names gs t (l.filter p):=
 ⟨h.sg,Nat.le_trans (List.length_filter_le _ _) h.n,fun e he=>h.ck e ((List.mem_filter.1 he).1),qQ.2 fun s hs=>by
  rw [qg8]
  exact qfL (List.Pairwise.filter _ (qx2 h hs))⟩
theorem qvN (names:List Str) (gs:List Gr) (l:List En) (layer:Int):rsL names gs l layer l.length=(l.filter fun e=>decide (e.layer≤layer)).map (j8 names gs l layer):=by
 have key: ∀n,n≤l.length→rsL names gs l layer n=((l.take n).filter fun e=>decide (e.layer≤layer)).map (j8 names gs l layer):=by
  intro n
  induction n with
  |zero=>intro _;rfl
  |succ n ih=>
   intro hn
   have e:l.take (n+1)=l.take n++ [l.getD n default]:=by
    rw [List.take_add_one,q9 (show n<l.length by omega),gdqA,q9 (show n<l.length by omega)]
    rfl
   rw [rsL,ih (by omega),e,List.filter_append,List.map_append]
   congr 1
   by_cases h:(l.getD n default).layer≤layer
   ·rw [if_pos h,List.filter_cons_of_pos (by simpa using h)]
    rfl
   ·rw [if_neg h,List.filter_cons_of_neg (by simpa using h)]
    rfl
 rw [key l.length (Nat.le_refl _),List.take_length]
theorem qe0 (names:List Str) (gs:List Gr) (l:List En) (layer:Int) (e:En):(j8 names gs l layer e).layer=e.layer∧(j8 names gs l layer e).vars=e.vars:=by
 unfold j8
 split
 ·exact ⟨rfl,rfl⟩
 ·exact ⟨rfl,rfl⟩
end RC
end
section
open Go Go.Proofs AF HY LN
namespace RC
set_option maxHeartbeats 16000000
theorem qv1 (names:List Str) (gs:List Gr) (U:List Int):(shR names gs U).length≤200:=by
 unfold shR
 split
 ·rw [List.length_map]
  unfold qwA
  obtain ⟨k,_,e⟩:=qiW gs (j5 U) (qa3 gs (j5 U)) (2^(qa3 gs (j5 U)).length-1)
  rw [e,qbH]
  have h1:=qF k.testBit 64
  have h2:=qF (anN (j5 U) (chN (usM gs (qa3 gs (j5 U))) k)).testBit 64
  unfold qkY
  omega
 ·exact Nat.zero_le _
theorem qbD {α:Type} [Inhabited α] {L:List α} {P:α→Prop} (hd:P default) (h: ∀e∈L,P e) (i:Nat):P (L.getD i default):=by
 rw [gdqA]
 by_cases hi:i<L.length
 ·rw [q9 hi];exact h _ (List.getElem_mem hi)
 ·rw [List.getElem?_eq_none (by omega)];exact hd
theorem qc2 {α:Type} [Inhabited α] {L:List α} {P:α→Prop} (h: ∀i,P (L.getD i default)) {e:α} (he:e∈L):P e:=by
 obtain ⟨i,hi,rfl⟩:=List.getElem_of_mem he
 have:=h i
 rw [gdqA,q9 hi]at this
 exact this
theorem qgd {names:List Str} {gs:List Gr} {l:List En} {layer:Int} {e:En} (he:e∈rsR names gs l layer): ∃e0∈l,e=j8 names gs l layer e0:=by
 unfold rsR at he
 split at he
 ·rw [qvN]at he
  obtain ⟨e0,h1,rfl⟩:=List.mem_map.1 he
  exact ⟨e0,(List.mem_filter.1 h1).1,rfl⟩
 ·cases he
theorem qr8 (names:List Str) (gs:List Gr) (l:List En) (layer:Int):(rsR names gs l layer).length≤l.length:=by
 unfold rsR
 split
 ·exact qe3 _ _ _ _ _
 ·exact Nat.zero_le _
theorem qrP {names:List Str} {gs:List Gr} {l:List En} {layer:Int} {e:En} (h:e.sup.length≤1000):(j8 names gs l layer e).sup.length≤1000:=by
 unfold j8
 split
 ·have:=qv1 names gs (qlQ names gs l layer e)
  show (shR names gs (qlQ names gs l layer e)).length≤_
  omega
 ·exact h
theorem qx7 {names:List Str} {gs:List Gr} {t:List Str} {l:List En} (h:CSz names gs t l) (layer:Int):
  (∀i,((rsR names gs l layer).getD i default).sup.length≤1000)∧(∀i,((rsR names gs l layer).getD i default).vars.length≤1000)∧
  (∀i j,(((rsR names gs l layer).getD i default).vars.getD j default).words.length≤1000)∧(∀i j,(((rsR names gs l layer).getD i default).vars.getD j default).sigla.length≤1000):=by
 refine ⟨fun i=>qbD (P:=fun e:En=>e.sup.length≤1000) (Nat.zero_le _) (fun e he=> ?_) i,fun i=>qbD (P:=fun e:En=>e.vars.length≤1000) (Nat.zero_le _) (fun e he=> ?_) i,
  fun i=>qbD (P:=fun e:En=> ∀j,(e.vars.getD j default).words.length≤1000) (fun j=>Nat.zero_le _) (fun e he=> ?_) i,fun i=>qbD (P:=fun e:En=> ∀j,(e.vars.getD j default).sigla.length≤1000) (fun j=>Nat.zero_le _) (fun e he=> ?_) i⟩
 ·obtain ⟨e0,h1,rfl⟩:=qgd he
  exact qrP (qc2 (P:=fun e:En=>e.sup.length≤1000) h.sp h1)
 ·obtain ⟨e0,h1,rfl⟩:=qgd he
  rw [(qe0 names gs l layer e0).2]
  exact qc2 (P:=fun e:En=>e.vars.length≤1000) h.vl h1
 ·obtain ⟨e0,h1,rfl⟩:=qgd he
  rw [(qe0 names gs l layer e0).2]
  exact qc2 (P:=fun e:En=> ∀j,(e.vars.getD j default).words.length≤1000) h.wl h1
 ·obtain ⟨e0,h1,rfl⟩:=qgd he
  rw [(qe0 names gs l layer e0).2]
  exact qc2 (P:=fun e:En=> ∀j,(e.vars.getD j default).sigla.length≤1000) h.sg h1
theorem qvO {names:List Str} {gs:List Gr} {t:List Str} {l:List En} (h:CSz names gs t l) (layer:Int):EqZ (rsR names gs l layer):=by
 obtain ⟨h1,h2,h3,h4⟩:=qx7 h layer
 have h5:=qr8 names gs l layer
 have h6:=h.ln
 exact ⟨by omega,fun i=>by have:=h1 i;omega,fun i=>by have:=h2 i;omega,fun i j=>by have:=h3 i j;omega,fun i j=>by have:=h4 i j;omega⟩
theorem qvP {names:List Str} {gs:List Gr} {t:List Str} {l:List En} (hg:qjU names gs t l=false):RZ names gs l:=by
 have hc:=qeO hg
 exact ⟨hc.hz,by have:=hc.ln;omega,fun i=>by have:=hc.vl i;omega,fun i j=>by have:=hc.sg i j;omega,fun i=>by have:=hc.sp i;omega,qjV hg⟩
theorem qz0 (names:List Str) (gs:List Gr) (t:List Str) (l:List En) (layer:Int) (h:List AObj) (hb:CB names gs t l) (hp:qaF SG h):qm Tryz.prog 8 [.agg (qbj names gs t l),.int .i64 layer] h (.bool true) h:=by
 have c10:=fun h=>qzR names gs t l h hb
 have c11:=fun l'=>qzr (h++l') (hp.app l')
 unfold qbj at c10
 cases hg:qjU names gs t l with
 |true=>
  rw [hg]at c10
  refine acO qy6 ?_
  simp (disch:=omega) only [c8s,List.replicate,qbj,go_sem]
  repeat' first
   |((first|refine cA (c10 _) ?_ ?_|refine cG (fun e=>c10 _) ?_ ?_|refine cA (c11 _) ?_ ?_|refine cG (fun e=>c11 _) ?_ ?_|refine cU (fun _=>c10 _) ?_ ?_|refine cU (fun _=>c11 _) ?_ ?_);(next=>exact flk);simp (disch:=omega) only [qbj,go_sem])
   |((first|apply qc|apply qb);exact rvk;simp only [go_sem];first|exact VLe.refl _|apply qd|apply qa|apply qe|skip)
   |with_reducible first|refine And.intro ?_ ?_|intro _
  all_goals try exact clz
 |false=>
  rw [hg]at c10
  have hc:=qeO hg
  have c34:=fun h=>qz5 names gs l layer h (qvP hg)
  have c35:=fun h=>qz6 names gs l layer h (qvP hg) hc.gm (fun i j=>by have:=hc.wl i j;omega)
  have c36:=fun h=>qz7 (rsR names gs l layer) h (qvO hc layer)
  refine acO qy6 ?_
  simp (disch:=omega) only [c8s,List.replicate,qbj,go_sem]
  repeat' first
   |((first|refine cA (c10 _) ?_ ?_|refine cG (fun e=>c10 _) ?_ ?_|refine cA (c11 _) ?_ ?_|refine cG (fun e=>c11 _) ?_ ?_|refine cA (c34 _) ?_ ?_|refine cG (fun e=>c34 _) ?_ ?_|refine cA (c35 _) ?_ ?_|refine cG (fun e=>c35 _) ?_ ?_|refine cA (c36 _) ?_ ?_|refine cG (fun e=>c36 _) ?_ ?_|refine cU (fun _=>c10 _) ?_ ?_|refine cU (fun _=>c11 _) ?_ ?_|refine cU (fun _=>c34 _) ?_ ?_|refine cU (fun _=>c35 _) ?_ ?_|refine cU (fun _=>c36 _) ?_ ?_);(next=>exact flk);simp (disch:=omega) only [qbj,go_sem])
   |((first|apply qc|apply qb);exact rvk;simp only [go_sem];first|exact VLe.refl _|apply qd|apply qa|apply qe|skip)
   |with_reducible first|refine And.intro ?_ ?_|intro _
  all_goals try exact clz
end RC
end
section
open Go Go.Proofs AF HY Go.ChangeShapes Go.RowKit
namespace LN
theorem qxV : Tryz.prog.globalNamed "internal/strconv.uint64pow10" = some 3 := by kernel_rfl
theorem qxX : Tryz.prog.globalNamed "strconv.ErrSyntax" = some 1 := by kernel_rfl
theorem qxW : Tryz.prog.globalNamed "strconv.ErrRange" = some 2 := by kernel_rfl
theorem qoc {w w':World} (h:qpk w) (e:w'.heap[3]? =w.heap[3]?):qpk w':=by
 unfold qpk Lib.TabIs at*
 rw [qdj qxV e]
 exact h
theorem qfh : "*" ++ "errors.errorString" = "*errors.errorString" := by decide
theorem qpT (u : TypeId) (h : Tryz.prog.typeName? 3 u = some "*errors.errorString") : u = 227 :=
 typeName_ptr_named (nm := "errors.errorString") (by rw [qfh]; kernel_rfl) (by kernel_rfl) (by decide) u (by rw [qfh]; exact h)
def qdc:List Nat:= [3,1,2]
def qwD (w:World):Prop:=qpk w∧qs5 w
theorem qv0 {W:World} (h:laidMet Tryz.prog YthlgfjbghnildaaGreatDoor.Rows.reconstructReadsRow.laid W):qpk W∧qs5 W:=by
 have h2:=laidMet.tail (laidMet.tail h)
 have h3:=laidMet.tail h2
 have h4:=laidMet.tail h3
 obtain ⟨a,s,e1,_⟩:=laid_sentinel (g:=2) (ti:=197) (tp:=227) (te:=229) (ts:=9) h3 qxW (by kernel_rfl) Tryz.underlying197 qpT Tryz.underlying227 Tryz.underlying229 rfl rfl Tryz.underlying9 (by kernel_rfl) (by kernel_rfl)
 obtain ⟨b,t,e2,_⟩:=laid_sentinel (g:=1) (ti:=197) (tp:=227) (te:=229) (ts:=9) h4 qxX (by kernel_rfl) Tryz.underlying197 qpT Tryz.underlying227 Tryz.underlying229 rfl rfl Tryz.underlying9 (by kernel_rfl) (by kernel_rfl)
 exact ⟨Lib.tabIs_of_head (t:=231) (e:=122) (n:=20) qxV (by kernel_rfl) Tryz.underlying231 Tryz.underlying122 (by kernel_rfl) (by kernel_rfl) h2,⟨_,_,e2⟩,_,_,e1⟩
theorem qoy {W:World} (h:laidMet Tryz.prog YthlgfjbghnildaaGreatDoor.Rows.reconstructReadsRow.laid W): ∀b,b∈qdc→ ∃arr T fz,W.heap[b]? =some (.cells arr T fz):=by
 intro b hb
 obtain ⟨h1,⟨_,_,h2⟩,_,_,h3⟩:=qv0 h
 have e:b=3∨b=1∨b=2:=by simpa [qdc] using hb
 rcases e with rfl|rfl|rfl
 ·exact qcc qxV h1
 ·exact qcc qxX h2
 ·exact qcc qxW h3
theorem qsg {W:World} (h:laidMet Tryz.prog YthlgfjbghnildaaGreatDoor.Rows.reconstructReadsRow.laid W): ∀w':World,(∀b,b∈qdc→w'.heap[b]? =W.heap[b]?)→qwD w':=by
 intro w' hs
 obtain ⟨h1,⟨t1,p1,h2⟩,t2,p2,h3⟩:=qv0 h
 refine ⟨qoc h1 (hs 3 (by simp [qdc])),⟨t1,p1,?_⟩,t2,p2,?_⟩
 ·rw [qdj qxX (hs 1 (by simp [qdc]))];exact h2
 ·rw [qdj qxW (hs 2 (by simp [qdc]))];exact h3
theorem qsf:qaF RC.SG [.pin qdc qwD]:=⟨0,_,_,rfl,fun _ h=>h⟩
end LN
end
