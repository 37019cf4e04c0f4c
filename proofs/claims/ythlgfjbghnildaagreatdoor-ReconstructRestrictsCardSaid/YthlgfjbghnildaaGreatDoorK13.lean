import Derived.Test.YthlgfjbghnildaaGreatDoorK12
import Derived.Test.YthlgfjbghnildaaGreatDoorK10
import Derived.Test.YthlgfjbghnildaaGreatDoorK1
import Derived.Test.YthlgfjbghnildaaGreatDoorK3
import Derived.Test.YthlgfjbghnildaaGreatDoorK6
import Derived.Test.YthlgfjbghnildaaGreatDoorProg
set_option linter.all false
set_option linter.unusedSimpArgs false
set_option linter.unusedVariables false
set_option linter.unusedSectionVars false
set_option maxRecDepth 100000
section
open Go Go.Proofs AF HY LN
namespace RC
set_option maxHeartbeats 16000000
theorem qz8 (names:List Str) (gs:List Gr) (set:List Int) (h:List AObj) (hz:Szs names gs) (hs:set.length≤1000000000) (h8:qbs names gs set=0→names.length≤8∧gs.length≤8):
  qm Tryz.prog 61 [strs names,qv gs,ql set] h (.tup [strs (shR names gs set),.int .i64 (qbs names gs set)]) h:=by
 have c95:=fun h=>qAk names gs set h hz hs
 unfold shR
 by_cases g:qbs names gs set=0
 case neg=>
  have k0:(qbs names gs set=0)=False:=eq_false g
  rw [if_neg g]
  refine acO qu0 ?_
  simp (disch:=omega) only [qwZ,List.replicate,k0,go_sem]
  repeat' first
   |((first|refine cA (c95 _) ?_ ?_|refine cG (fun e=>c95 _) ?_ ?_|refine cU (fun _=>c95 _) ?_ ?_);(next=>exact flk);simp (disch:=omega) only [k0,go_sem])
   |((first|apply qc|apply qb);exact rvk;simp only [go_sem];first|exact VLe.refl _|apply qd|apply qa|apply qe|skip)
   |with_reducible first|refine And.intro ?_ ?_|intro _
  all_goals try exact clz
  exact qK ⟨zQ,VLe.refl _,trivial⟩
 rw [if_pos g,g]
 simp only [g]at c95
 obtain ⟨n8,g8⟩:=h8 g
 have hse:sgE names gs=0∧kL names.length set=0:=by
  unfold qbs at g
  split at g
  ·rename_i h;exact ⟨h,g⟩
  ·cases g
 have hin:=(jZ hse.2).1
 have hin64:inB 64 set:=fun i hi=>by have:=hin i hi;omega
 have hmi:=qeP hse.1
 have hml:=hz.gm
 have hgl:=hz.g
 have c96:=fun h=>qwB set h hs hin64
 have hall:j5 set<2^8:=Nat.lt_of_lt_of_le (qeW (by omega) hin) (Nat.pow_le_pow_right (by omega) n8)
 obtain ⟨all,hA⟩: ∃all,all=j5 set:=⟨_,rfl⟩
 have hpin:=fun {c} hc {p}=>qpO (names:=names) (gs:=gs) (set:=set) (all:=all) hin (by omega) hA (c:=c) hc (p:=p)
 rw [←hA]at hall
 simp only [←hA]at c96
 have c97:=fun h=>qAs gs all h (by omega) hmi hml (by omega)
 have hLin:=fun {x}=> @qfB gs all x
 have hLl:(qa3 gs all).length≤8:=by have:=qF (qgq gs all) gs.length;unfold qa3;omega
 have hbA:qwA gs all=bst gs all (qa3 gs all) (2^(qa3 gs all).length-1):=rfl
 rw [←hA,hbA]
 have hbs:=qiW gs all (qa3 gs all)
 obtain ⟨L,hL⟩: ∃L,L=qa3 gs all:=⟨_,rfl⟩
 simp only [←hL]at c97 hLin hpin
 rw [←hL]at hLl
 rw [←hL]at hbs ⊢
 have hmsl:=qfs gs L
 have hmsg:=fun {i} hi=>qfr (gs:=gs) (L:=L) (i:=i) hi
 have hmlt:=qpX hmi L
 obtain ⟨ms,hms⟩: ∃ms,ms=usM gs L:=⟨_,rfl⟩
 rw [←hms]at hmsl
 simp only [←hms]at hmsg hmlt
 have z1: ∀g,valL g .len [ql L]= .int .i64 L.length:=fun _=>rfl
 have z2: ∀g,okL g .len [ql L]=True:=fun _=>eq_true trivial
 refine acO qu0 ?_
 simp (disch:=omega) only [qwZ,List.replicate,z1,z2,go_sem]
 repeat' first
  |((first|refine cA (c95 _) ?_ ?_|refine cG (fun e=>c95 _) ?_ ?_|refine cA (c96 _) ?_ ?_|refine cG (fun e=>c96 _) ?_ ?_|refine cA (c97 _) ?_ ?_|refine cG (fun e=>c97 _) ?_ ?_|refine cU (fun _=>c95 _) ?_ ?_|refine cU (fun _=>c96 _) ?_ ?_|refine cU (fun _=>c97 _) ?_ ?_);(next=>exact flk);simp (disch:=omega) only [z1,z2,go_sem])
  |((first|apply qc|apply qb);exact rvk;simp only [go_sem];first|exact VLe.refl _|apply qd|apply qa|apply qe|skip)
  |with_reducible first|refine And.intro ?_ ?_|intro _
 all_goals try exact clz
 refine qo (T:=fun s:Nat×Nat×AObj=>qI 151 [(0,strs names),(4,.op h.length 1 0),(9,.op (h.length+2) 1 0),(10,.op (h.length+3) 1 0),(11,.osl (h.length+4) s.2.1 1 0 s.1),(39,ql L),(40,.int .i64 L.length),(41,.int .i64 s.1)])
  (H:=fun s=>h++ [.mem 1 23 [qv gs],.emp 1,.mem 1 122 [.int .u64 ((all:Nat):Int)],.mem 1 37 [ql L],zp s.2.1 122 (qdt (ms.take s.1)),s.2.2,.emp 0,.emp 0,.emp 0,.emp 0,.emp 0,.emp 0,.emp 0,.emp 0,.emp 0,.emp 0,.emp 0,.emp 0,.emp 0])
  (inv:=fun s=>s.1≤L.length∧qD [s.2.2] 0=true) (m:=fun s=>L.length-s.1) (0,1,.emp 0) ⟨Nat.zero_le _,rfl⟩ (Wk.temps ?_) ?_
 ·(simp only [List.replicate,go_sem,qj,qh,qg,qi];try (repeat' first|(with_reducible refine And.intro ?_ ?_)|(apply qd;omega)|(apply qa;rfl)|exact VLe.refl _))
 rintro ⟨i,v,O5⟩ ⟨i1,i2⟩ K hK
 simp only at i1 i2 hK
 have i2': ∀m,qD (O5::m) 0=true:=fun _=>i2
 by_cases hi:i<L.length
 ·have k1:((i:Int)<L.length)=True:=eq_true (by omega)
  have hst:=qhK (L:=ms) (i:=i) (by omega)
  rw [hmsg hi]at hst
  have hm:L.getD i 0∈L:=by rw [gdqA,q9 hi];exact List.getElem_mem hi
  obtain ⟨y,hy,hyl⟩:=hLin hm
  rw [hy]at hst
  simp only [Int.toNat_natCast]at hst
  have k2:((y:Int)<gs.length)=True:=eq_true (by omega)
  have k3:(0≤(y:Int))=True:=eq_true (by omega)
  have c96:=fun h=>qwB (gs.getD y default).mem h (hml y) (hmi y)
  obtain ⟨gr,hgr⟩: ∃gr,gr=gs.getD y default:=⟨_,rfl⟩
  have egr:=hgr.symm
  simp only [egr]at c96
  rw [egr]at hst
  have eCl:(qdt (ms.take i)).length=i:=by rw [qgl,List.length_take];omega
  have eTk:List.take i (qdt (ms.take i))=qdt (ms.take i):=List.take_of_length_le (by omega)
  have zv:ql L= .sl L.length fun i=> [.int .i64 (L.getD i 0)]:=rfl
  simp (disch:=omega) only [List.replicate,qv,grC,zv,k1,k2,k3,i2',hy,egr,Nat.mul_one,Int.toNat_natCast,go_sem]
  repeat' first
   |((first|refine cA (c96 _) ?_ ?_|refine cG (fun e=>c96 _) ?_ ?_|refine cU (fun _=>c96 _) ?_ ?_);(next=>exact flk);simp (disch:=omega) only [qv,grC,zv,k1,k2,k3,i2',hy,egr,eCl,eTk,Nat.mul_one,Int.toNat_natCast,go_sem])
   |((first|apply qc|apply qb);exact rvk;simp only [go_sem];first|exact VLe.refl _|apply qd|apply qa|apply qe|skip)
   |with_reducible first|refine And.intro ?_ ?_|intro _
  all_goals try exact clz
  have eA:qdt (ms.take i)++ [AV.int .u64 ((j5 gr.mem:Nat):Int)]=qdt (ms.take (i+1)):=by rw [hst,qoZ];rfl
  rw [eA]
  refine hK _ _ (i+1,v+1,.mem (qs (some O5)+1) 122 [.int .u64 ((j5 gr.mem:Nat):Int)]) ⟨hi,rfl⟩ (by simp only;omega) ?_
  simp only [zv,qv,grC]
  refine Wk.temps ?_
  (simp only [List.replicate,go_sem,qj,qh,qg,qi];try (repeat' first|(with_reducible refine And.intro ?_ ?_)|(apply qd;omega)|(apply qa;rfl)|exact VLe.refl _))
 obtain rfl:i=L.length:=by omega
 have k1:((L.length:Int)<L.length)=False:=eq_false (by omega)
 have emt:ms.take L.length=ms:=List.take_of_length_le (by omega)
 rw [emt]
 simp (disch:=omega) only [List.replicate,k1,go_sem]
 repeat' first
  |((first|apply qc|apply qb);exact rvk;simp only [go_sem];first|exact VLe.refl _|apply qd|apply qa|apply qe|skip)
  |with_reducible first|refine And.intro ?_ ?_|intro _
 all_goals try exact clz
 have hbs0:bsO h gs all L 0 .nl (.emp 0):= .inl ⟨rfl,rfl⟩
 refine ⟨qI 151 [(0,strs names),(4,.op h.length 1 0),(9,.op (h.length+2) 1 0),(10,.op (h.length+3) 1 0),(11,jr ms),(14,.op (h.length+7) 1 0),(15,.op (h.length+8) 1 0)],shH h gs all L (v+1) O5 .nl false (.emp 0) (.emp 0) (.emp 0) [],Wk.trans (Wk.freeze [h.length+4] (by simp only [zN,go_sem])) ?_,?_⟩
 ·unfold shH
  simp only [kK,List.map,go_sem]
  refine Wk.temps ?_
  (simp only [List.replicate,go_sem,qj,qh,qg,qi];try (repeat' first|(with_reducible refine And.intro ?_ ?_)|(apply qd;omega)|(apply qa;rfl)|exact VLe.refl _))
  all_goals first
   |(rw [if_neg (by simp)];exact VLe.refl _)
   |(rw [if_pos (by simp),if_pos (by simp)];exact qoB (fun _=>rfl) (by omega))
 have c98:=fun h=>qzy ms h
 simp (disch:=omega) only [List.replicate,go_sem]
 repeat' first
  |((first|refine cA (c98 _) ?_ ?_|refine cG (fun e=>c98 _) ?_ ?_|refine cU (fun _=>c98 _) ?_ ?_);(next=>exact flk);simp (disch:=omega) only [go_sem])
  |((first|apply qc|apply qb);exact rvk;simp only [go_sem];first|exact VLe.refl _|apply qd|apply qa|apply qe|skip)
  |with_reducible first|refine And.intro ?_ ?_|intro _
 all_goals try exact clz
 refine jY (xs:=qmm ms) (itC ms (by omega) hmlt) (qmS ms)
  (S:=fun i hh=> ∃bc O9 O10 O12,bsO h gs all L i bc O9∧(∀n,kX n O9)∧qD [O10] 0=true∧(∀n,kX n O10)∧qD [O12] 0=true∧(∀n,kX n O12)∧hh=shH h gs all L (v+1) O5 bc (decide (0<i)) O9 O10 O12 [])
  (E:=fun _ _=>False) ?_ (fun _ _ h=>h.elim) ?_ ?_ ?_ ?_ (fun _ _ h=>h.elim)
 ·rintro i hh ⟨bc,O9,O10,O12,b1,b2,b4,b5,b6,b7,rfl⟩
  have hbc:zE (h.length+19) bc=true∧zE (h.length+19+1) bc=true:=by
   rcases b1 with ⟨rfl,_⟩|⟨j,w,_,rfl,_⟩
   ·cases i<;>exact ⟨rfl,rfl⟩
   ·constructor<;>simp [zE]<;>omega
  unfold shH
  refine LowI.app rfl (fun o ho=> ?_)
  have e19:([.mem 1 23 [qv gs],.emp 1,.mem 1 122 [.int .u64 ((all:Nat):Int)],.mem 1 37 [ql L],.emp (v+1),O5,.emp 0,.mem 1 37 [.nl],.mem 1 4 [.bool false],.emp 0,.emp 0,.emp 0,.emp 0,.emp 0,.emp 0,.emp 0,.emp 0,.emp 0,.emp 0]:List AObj).length=19:=rfl
  simp only [List.mem_cons,List.not_mem_nil,or_false]at ho
  rcases ho with rfl|rfl|rfl|rfl|rfl|rfl|rfl|rfl|rfl|rfl|rfl|rfl|rfl|rfl|rfl|rfl|rfl|rfl|rfl
  all_goals first
   |(left;simp;done)
   |(right;exact ⟨b2 _,b2 _⟩)
   |(right;exact ⟨b5 _,b5 _⟩)
   |(right;exact ⟨b7 _,b7 _⟩)
   |(right;rw [e19];constructor<;>(intro c hc;simp only [List.mem_cons,List.not_mem_nil,or_false]at hc;subst hc;first|rfl|exact hbc.1|exact hbc.2))
 ·exact ⟨.nl,.emp 0,.emp 0,.emp 0,hbs0,fun _=>trivial,rfl,fun _=>trivial,rfl,fun _=>trivial,rfl⟩
 ·rw [zU]
  simp [zE,zE.lowVs,qbE,qkd]
  try omega
 ·rintro i hh tl LI TS hi ⟨bc,O9,O10,O12,b1,b2,b4,b5,b6,b7,rfl⟩ hq K K2 hK hN hR hX
  rw [qfK hi]
  rw [qcO,hmsl]at hi
  simp only [qaW]
  simp (disch:=omega) only [go_sem]
  refine hK _ _ (shH h gs all L (v+1) O5 bc (decide (0<i)) O9 O10 O12 []) rfl (by rw [zU,zU]) ?_
  rw [qaX]
  obtain ⟨O9',p9,l9,w⟩:=shW (tl:= .lp .busy TS LI::tl) (v4:=v+1) (O5:=O5) (fd:=decide (0<i)) (O10:=O10) (O12:=O12) b1 b2
  have p9': ∀m,qD (O9'::m) 0=true:=fun _=>p9
  have hi8:i<256:=Nat.lt_of_lt_of_le hi (Nat.pow_le_pow_right (by omega) hLl:2^L.length≤2^8)
  have hchl:=qpr hmlt i
  obtain ⟨m,hm⟩: ∃m,m=chN ms i:=⟨_,rfl⟩
  rw [←hm]at hchl
  have hand:=qfH (a:=all) (b:=m) (by omega) hchl
  have hanl:anN all m<256:=qpm (n:=8) hall
  have c99a:=fun h=>qza i h hi8
  have c99b:=fun h=>qza (anN all m) h hanl
  have c100a:=fun h=>qx1 i h (by omega)
  have c100b:=fun h=>qx1 (anN all m) h (by omega)
  have hplc0:jD gs all L i=(qP i.testBit 64).map (fun k=>L.getD k.toNat 0)++(qP (anN all m).testBit 64).map (fun s=>(gs.length:Int)+s):=by unfold jD;rw [←hms,←hm]
  have hpl:=qbH gs all L i
  rw [←hms,←hm]at hpl
  have hpi:qkY i=(qP i.testBit 64).length:=rfl
  have hpj:qkY (anN all m)=(qP (anN all m).testBit 64).length:=rfl
  have hM1: ∀x∈qP i.testBit 64,∃y:Nat,x=(y:Int)∧y<L.length:=fun x hx=>by
   obtain ⟨y,e1,e2,e3⟩:=jy hx
   exact ⟨y,e1,qc8 hi e3⟩
  have hM2: ∀x∈qP (anN all m).testBit 64,∃y:Nat,x=(y:Int)∧y<64:=fun x hx=>by
   obtain ⟨y,e1,e2,e3⟩:=jy hx
   exact ⟨y,e1,e2⟩
  have hM1l:=qF i.testBit 64
  have hM2l:=qF (anN all m).testBit 64
  obtain ⟨M,hM⟩: ∃M,M=qP i.testBit 64:=⟨_,rfl⟩
  obtain ⟨M2,hM'⟩: ∃M2,M2=qP (anN all m).testBit 64:=⟨_,rfl⟩
  obtain ⟨s1,hs1⟩: ∃s1,s1=qkY i:=⟨_,rfl⟩
  obtain ⟨s2,hs2⟩: ∃s2,s2=qkY (anN all m):=⟨_,rfl⟩
  rw [←hM]at hplc0 hpi hM1 hM1l
  rw [←hM']at hplc0 hpj hM2 hM2l
  rw [←hs1]at hpi
  rw [←hs2]at hpj
  rw [←hs1,←hs2]at hpl
  simp only [←hM]at c100a
  simp only [←hM']at c100b
  simp only [←hs1]at c99a
  simp only [←hs2]at c99b
  obtain ⟨F,hF⟩: ∃F,F=M.map (fun k=>L.getD k.toNat 0):=⟨_,rfl⟩
  obtain ⟨G,hG⟩: ∃G,G=M2.map (fun s=>(gs.length:Int)+s):=⟨_,rfl⟩
  have hplc:jD gs all L i=F++G:=by rw [hplc0,hF,hG]
  have hFl:F.length=M.length:=by rw [hF,List.length_map]
  have hGl:G.length=M2.length:=by rw [hG,List.length_map]
  have hMF: ∀j,j<M.length→ ∃y:Nat,M.getD j 0=(y:Int)∧y<L.length∧F.getD j 0=L.getD y 0:=fun j hj=>by
   have hm:M.getD j 0∈M:=by rw [gdqA,q9 hj];exact List.getElem_mem hj
   obtain ⟨y,e1,e2⟩:=hM1 _ hm
   refine ⟨y,e1,e2,?_⟩
   rw [gdqA,q9 hj]at e1
   have e1:M[j]=(y:Int):=e1
   rw [hF,gdqA,List.getElem?_map,q9 hj,e1]
   rfl
  have hMG: ∀j,j<M2.length→ ∃y:Nat,M2.getD j 0=(y:Int)∧y<64∧G.getD j 0=(gs.length:Int)+y:=fun j hj=>by
   have hm:M2.getD j 0∈M2:=by rw [gdqA,q9 hj];exact List.getElem_mem hj
   obtain ⟨y,e1,e2⟩:=hM2 _ hm
   refine ⟨y,e1,e2,?_⟩
   rw [gdqA,q9 hj]at e1
   have e1:M2[j]=(y:Int):=e1
   rw [hG,gdqA,List.getElem?_map,q9 hj,e1]
   rfl
  have zM1: ∀g,valL g .len [ql M]= .int .i64 M.length:=fun _=>rfl
  have zM2: ∀g,okL g .len [ql M]=True:=fun _=>eq_true trivial
  simp only [←hm]
  simp (disch:=omega) only [go_sem]
  refine ⟨_,_,w _,?_⟩
  clear w
  cases i with
  |zero=>
   have hfd:decide (0<0)=false:=rfl
   simp (disch:=omega) only [shH,hfd,bsC,p9',zM1,zM2,go_sem]
   repeat' first
    |((first|refine cA (c99a _) ?_ ?_|refine cG (fun e=>c99a _) ?_ ?_|refine cA (c99b _) ?_ ?_|refine cG (fun e=>c99b _) ?_ ?_|refine cA (c100a _) ?_ ?_|refine cG (fun e=>c100a _) ?_ ?_|refine cU (fun _=>c99a _) ?_ ?_|refine cU (fun _=>c99b _) ?_ ?_|refine cU (fun _=>c100a _) ?_ ?_);(next=>exact flk);simp (disch:=omega) only [shH,hfd,bsC,p9',hand,zM1,zM2,go_sem])
    |((first|apply qc|apply qb);exact rvk;simp only [go_sem];first|exact VLe.refl _|apply qd|apply qa|apply qe|skip)
    |with_reducible first|refine And.intro ?_ ?_|intro _
   all_goals try exact clz
   refine qo (T:=fun j:Nat×Nat×AObj=>qI 151 [(0,strs names),(4,.op h.length 1 0),(9,.op (h.length+2) 1 0),(10,.op (h.length+3) 1 0),(14,.op (h.length+7) 1 0),(15,.op (h.length+8) 1 0),(16,.int .u64 ((0:Nat):Int)),(17,.int .u64 ((m:Nat):Int)),(19,.osl (h.length+9) j.2.1 1 0 j.1),(74,ql M),(75,.int .i64 M.length),(76,.int .i64 j.1)])
    (H:=fun j=>shH h gs all L (v+1) O5 .nl false (zp j.2.1 3 (qn (F.take j.1))) j.2.2 O12 (.lp .busy TS LI::tl))
    (inv:=fun j=>j.1≤M.length∧qD [j.2.2] 0=true∧ ∀n,kX n j.2.2) (m:=fun j=>M.length-j.1) (0,qs (some O9')+1,O10) ⟨Nat.zero_le _,b4,b5⟩ (Wk.temps ?_) ?_
   ·(simp only [List.replicate,go_sem,qj,qh,qg,qi];try (repeat' first|(with_reducible refine And.intro ?_ ?_)|(apply qd;omega)|(apply qa;rfl)|exact VLe.refl _))
   rintro ⟨j,u,O10⟩ ⟨j1,j2,j3⟩ KA hKA
   simp only at j1 j2 j3 hKA
   have j2': ∀m,qD (O10::m) 0=true:=fun _=>j2
   by_cases hj:j<M.length
   ·have q1:((j:Int)<M.length)=True:=eq_true (by omega)
    obtain ⟨y,hy,hyl,hyF⟩:=hMF j hj
    have q2:((y:Int)<L.length)=True:=eq_true (by omega)
    have q3:(0≤(y:Int))=True:=eq_true (by omega)
    have hst:=zu (L:=F) (i:=j) (by omega)
    rw [hyF]at hst
    have eC:=qt (F.take j)
    rw [List.length_take,Nat.min_eq_left (by omega)]at eC
    have eTk:List.take j (qn (F.take j))=qn (F.take j):=List.take_of_length_le (by omega)
    have zv: ∀X:List Int,ql X= .sl X.length fun i=> [.int .i64 (X.getD i 0)]:=fun _=>rfl
    simp (disch:=omega) only [List.replicate,shH,q1,q2,q3,j2',zv,hy,Nat.mul_one,Int.toNat_natCast,go_sem]
    repeat' first
     |((first|apply qc|apply qb);exact rvk;simp only [go_sem];first|exact VLe.refl _|apply qd|apply qa|apply qe|skip)
     |with_reducible first|refine And.intro ?_ ?_|intro _
    all_goals try exact clz
    have eA:qn (F.take j)++ [AV.int .i64 (L.getD y 0)]=qn (F.take (j+1)):=by rw [hst,qG];rfl
    try rw [eTk]
    rw [eA]
    refine hKA _ _ (j+1,u+1,.mem (qs (some O10)+1) 3 [.int .i64 (L.getD y 0)]) ⟨hj,rfl,fun n c hc=>by simp only [List.mem_cons,List.not_mem_nil,or_false]at hc;subst hc;rfl⟩ (by simp only;omega) ?_
    simp only [shH,zv]
    refine Wk.temps ?_
    (simp only [List.replicate,go_sem,qj,qh,qg,qi];try (repeat' first|(with_reducible refine And.intro ?_ ?_)|(apply qd;omega)|(apply qa;rfl)|exact VLe.refl _))
   obtain rfl:j=M.length:=by omega
   have q1:((M.length:Int)<M.length)=False:=eq_false (by omega)
   have eFt:F.take M.length=F:=List.take_of_length_le (by omega)
   rw [eFt]
   have zm1: ∀g,valL g .len [ql M2]= .int .i64 M2.length:=fun _=>rfl
   have zm2: ∀g,okL g .len [ql M2]=True:=fun _=>eq_true trivial
   simp (disch:=omega) only [List.replicate,shH,q1,zm1,zm2,hand,go_sem]
   repeat' first
    |((first|refine cA (c100b _) ?_ ?_|refine cG (fun e=>c100b _) ?_ ?_|refine cU (fun _=>c100b _) ?_ ?_);(next=>exact flk);simp (disch:=omega) only [shH,q1,hand,zm1,zm2,go_sem])
    |((first|apply qc|apply qb);exact rvk;simp only [go_sem];first|exact VLe.refl _|apply qd|apply qa|apply qe|skip)
    |with_reducible first|refine And.intro ?_ ?_|intro _
   all_goals try exact clz
   refine qo (T:=fun j:Nat×Nat×AObj=>qI 151 [(0,strs names),(4,.op h.length 1 0),(9,.op (h.length+2) 1 0),(10,.op (h.length+3) 1 0),(14,.op (h.length+7) 1 0),(15,.op (h.length+8) 1 0),(19,.osl (h.length+9) j.2.1 1 0 (F.length+j.1)),(91,ql M2),(92,.int .i64 M2.length),(93,.int .i64 j.1)])
    (H:=fun j=>shH h gs all L (v+1) O5 .nl false (zp j.2.1 3 (qn (F++G.take j.1))) O10 j.2.2 (.lp .busy TS LI::tl))
    (inv:=fun j=>j.1≤M2.length∧qD [j.2.2] 0=true∧ ∀n,kX n j.2.2) (m:=fun j=>M2.length-j.1) (0,u,O12) ⟨Nat.zero_le _,b6,b7⟩ ?_ ?_
   ·have e0:F++G.take 0=F:=by simp
    simp only [e0,Nat.add_zero,hFl]
    unfold shH
    refine Wk.temps ?_
    (simp only [List.replicate,go_sem,qj,qh,qg,qi];try (repeat' first|(with_reducible refine And.intro ?_ ?_)|(apply qd;omega)|(apply qa;rfl)|exact VLe.refl _))
   rintro ⟨j,u2,O12⟩ ⟨k1,k2,k3⟩ KB hKB
   simp only at k1 k2 k3 hKB
   have k2': ∀m,qD (O12::m) 0=true:=fun _=>k2
   by_cases hj2:j<M2.length
   ·have q5:((j:Int)<M2.length)=True:=eq_true (by omega)
    obtain ⟨y,hy,hyl,hyG⟩:=hMG j hj2
    have hst:F++G.take (j+1)=(F++G.take j)++ [(gs.length:Int)+y]:=by rw [zu (L:=G) (i:=j) (by omega),hyG,List.append_assoc]
    have eC:=qt (F++G.take j)
    rw [List.length_append,List.length_take,Nat.min_eq_left (by omega)]at eC
    have eTk:List.take (F.length+j) (qn (F++G.take j))=qn (F++G.take j):=List.take_of_length_le (by omega)
    have zg1: ∀g,valL g .len [qv gs]= .int .i64 gs.length:=fun _=>rfl
    have zg2: ∀g,okL g .len [qv gs]=True:=fun _=>eq_true trivial
    have zv: ∀X:List Int,ql X= .sl X.length fun i=> [.int .i64 (X.getD i 0)]:=fun _=>rfl
    simp (disch:=omega) only [List.replicate,shH,q5,k2',zv,hy,zg1,zg2,Nat.mul_one,Int.toNat_natCast,go_sem]
    repeat' first
     |((first|apply qc|apply qb);exact rvk;simp only [go_sem];first|exact VLe.refl _|apply qd|apply qa|apply qe|skip)
     |with_reducible first|refine And.intro ?_ ?_|intro _
    all_goals try exact clz
    have eA:qn (F++G.take j)++ [AV.int .i64 ((gs.length:Int)+y)]=qn (F++G.take (j+1)):=by rw [hst,qG (F++G.take j)];rfl
    try rw [eTk]
    rw [eA]
    refine hKB _ _ (j+1,u2+1,.mem (qs (some O12)+1) 3 [.int .i64 ((gs.length:Int)+y)]) ⟨hj2,rfl,fun n c hc=>by simp only [List.mem_cons,List.not_mem_nil,or_false]at hc;subst hc;rfl⟩ (by simp only;omega) ?_
    simp only [shH,zv]
    refine Wk.temps ?_
    (simp only [List.replicate,go_sem,qj,qh,qg,qi];try (repeat' first|(with_reducible refine And.intro ?_ ?_)|(apply qd;omega)|(apply qa;rfl)|exact VLe.refl _))
   obtain rfl:j=M2.length:=by omega
   have q5:((M2.length:Int)<M2.length)=False:=eq_false (by omega)
   have eGt:F++G.take M2.length=jD gs all L 0:=by rw [List.take_of_length_le (by omega),hplc]
   have eln:F.length+M2.length=(jD gs all L 0).length:=by rw [hplc,List.length_append];omega
   rw [eGt,eln]
   simp (disch:=omega) only [List.replicate,shH,bsC,q5,hfd,go_sem]
   repeat' first
    |(refine qu (.int .i64 0) ?_;simp (disch:=omega) only [shH,bsC,q5,hfd,go_sem])
    |((first|apply qc|apply qb);exact rvk;simp only [go_sem];first|exact VLe.refl _|apply qd|apply qa|apply qe|skip)
    |with_reducible first|refine And.intro ?_ ?_|intro _
   all_goals try exact clz
   refine hN _ _ (shH h gs all L (v+1) O5 (.osl (h.length+9) u2 1 0 (jD gs all L 0).length) true (zp u2 3 (qn (jD gs all L 0))) O10 O12 []) ?_ (by rw [zU,zU]) ⟨_,_,_,_,.inr ⟨0,u2,rfl,rfl,rfl⟩,fun n=>jX (qan _ _),j2,j3,k2,k3,rfl⟩
   rw [qaX]
   rfl
  |succ i'=>
   have hfd:decide (0<i'+1)=true:=decide_eq_true (by omega)
   have hfd2:decide (0<i'+1+1)=true:=decide_eq_true (by omega)
   have hbs':bst gs all L (i'+1)=if qib (jD gs all L (i'+1)) (bst gs all L i')=true then jD gs all L (i'+1) else bst gs all L i':=rfl
   have hbc:bsC gs all L (i'+1)=ql (bst gs all L i'):=rfl
   obtain ⟨b,hb⟩: ∃b,b=bst gs all L i':=⟨_,rfl⟩
   rw [←hb]at hbs' hbc
   have zb1: ∀g,valL g .len [ql b]= .int .i64 b.length:=fun _=>rfl
   have zb2: ∀g,okL g .len [ql b]=True:=fun _=>eq_true trivial
   by_cases hsk:b.length<s1+s2
   ·have r0:((b.length:Int)<(s1:Int)+s2)=True:=eq_true (by omega)
    simp (disch:=omega) only [shH,hfd,hbc,p9',zM1,zM2,zb1,zb2,hand,go_sem]
    repeat' first
     |((first|refine cA (c99a _) ?_ ?_|refine cG (fun e=>c99a _) ?_ ?_|refine cA (c99b _) ?_ ?_|refine cG (fun e=>c99b _) ?_ ?_|refine cA (c100a _) ?_ ?_|refine cG (fun e=>c100a _) ?_ ?_|refine cU (fun _=>c99a _) ?_ ?_|refine cU (fun _=>c99b _) ?_ ?_|refine cU (fun _=>c100a _) ?_ ?_);(next=>exact flk);simp (disch:=omega) only [shH,hfd,hbc,p9',hand,zM1,zM2,zb1,zb2,r0,go_sem])
     |((first|apply qc|apply qb);exact rvk;simp only [go_sem];first|exact VLe.refl _|apply qd|apply qa|apply qe|skip)
     |with_reducible first|refine And.intro ?_ ?_|intro _
    all_goals try exact clz
    have hbt:bst gs all L (i'+1)=b:=by rw [hbs',if_neg (by unfold qib;rw [hpl];simp;omega)]
    refine hN _ _ (shH h gs all L (v+1) O5 (ql b) true O9' O10 O12 []) ?_ (by rw [zU,zU]) ⟨_,_,_,_,.inl ⟨by show ql b=ql (bst gs all L (i'+1));rw [hbt],p9⟩,l9,b4,b5,b6,b7,by rw [hfd2]⟩
    rw [qaX]
    rfl
   have r0:((b.length:Int)<(s1:Int)+s2)=False:=eq_false (by omega)
   simp (disch:=omega) only [shH,hfd,hbc,p9',zM1,zM2,zb1,zb2,hand,go_sem]
   repeat' first
    |((first|refine cA (c99a _) ?_ ?_|refine cG (fun e=>c99a _) ?_ ?_|refine cA (c99b _) ?_ ?_|refine cG (fun e=>c99b _) ?_ ?_|refine cA (c100a _) ?_ ?_|refine cG (fun e=>c100a _) ?_ ?_|refine cU (fun _=>c99a _) ?_ ?_|refine cU (fun _=>c99b _) ?_ ?_|refine cU (fun _=>c100a _) ?_ ?_);(next=>exact flk);simp (disch:=omega) only [shH,hfd,hbc,p9',hand,zM1,zM2,zb1,zb2,r0,go_sem])
    |((first|apply qc|apply qb);exact rvk;simp only [go_sem];first|exact VLe.refl _|apply qd|apply qa|apply qe|skip)
    |with_reducible first|refine And.intro ?_ ?_|intro _
   all_goals try exact clz
   refine qo (T:=fun j:Nat×Nat×AObj=>qI 151 [(0,strs names),(4,.op h.length 1 0),(9,.op (h.length+2) 1 0),(10,.op (h.length+3) 1 0),(14,.op (h.length+7) 1 0),(15,.op (h.length+8) 1 0),(16,.int .u64 (((i'+1):Nat):Int)),(17,.int .u64 ((m:Nat):Int)),(19,.osl (h.length+9) j.2.1 1 0 j.1),(74,ql M),(75,.int .i64 M.length),(76,.int .i64 j.1)])
    (H:=fun j=>shH h gs all L (v+1) O5 (ql b) true (zp j.2.1 3 (qn (F.take j.1))) j.2.2 O12 (.lp .busy TS LI::tl))
    (inv:=fun j=>j.1≤M.length∧qD [j.2.2] 0=true∧ ∀n,kX n j.2.2) (m:=fun j=>M.length-j.1) (0,qs (some O9')+1,O10) ⟨Nat.zero_le _,b4,b5⟩ (Wk.temps ?_) ?_
   ·(simp only [List.replicate,go_sem,qj,qh,qg,qi];try (repeat' first|(with_reducible refine And.intro ?_ ?_)|(apply qd;omega)|(apply qa;rfl)|exact VLe.refl _))
   rintro ⟨j,u,O10⟩ ⟨j1,j2,j3⟩ KA hKA
   simp only at j1 j2 j3 hKA
   have j2': ∀m,qD (O10::m) 0=true:=fun _=>j2
   by_cases hj:j<M.length
   ·have q1:((j:Int)<M.length)=True:=eq_true (by omega)
    obtain ⟨y,hy,hyl,hyF⟩:=hMF j hj
    have q2:((y:Int)<L.length)=True:=eq_true (by omega)
    have q3:(0≤(y:Int))=True:=eq_true (by omega)
    have hst:=zu (L:=F) (i:=j) (by omega)
    rw [hyF]at hst
    have eC:=qt (F.take j)
    rw [List.length_take,Nat.min_eq_left (by omega)]at eC
    have eTk:List.take j (qn (F.take j))=qn (F.take j):=List.take_of_length_le (by omega)
    have zv: ∀X:List Int,ql X= .sl X.length fun i=> [.int .i64 (X.getD i 0)]:=fun _=>rfl
    simp (disch:=omega) only [List.replicate,shH,q1,q2,q3,j2',zv,hy,Nat.mul_one,Int.toNat_natCast,go_sem]
    repeat' first
     |((first|apply qc|apply qb);exact rvk;simp only [go_sem];first|exact VLe.refl _|apply qd|apply qa|apply qe|skip)
     |with_reducible first|refine And.intro ?_ ?_|intro _
    all_goals try exact clz
    have eA:qn (F.take j)++ [AV.int .i64 (L.getD y 0)]=qn (F.take (j+1)):=by rw [hst,qG];rfl
    try rw [eTk]
    rw [eA]
    refine hKA _ _ (j+1,u+1,.mem (qs (some O10)+1) 3 [.int .i64 (L.getD y 0)]) ⟨hj,rfl,fun n c hc=>by simp only [List.mem_cons,List.not_mem_nil,or_false]at hc;subst hc;rfl⟩ (by simp only;omega) ?_
    simp only [shH,zv]
    refine Wk.temps ?_
    (simp only [List.replicate,go_sem,qj,qh,qg,qi];try (repeat' first|(with_reducible refine And.intro ?_ ?_)|(apply qd;omega)|(apply qa;rfl)|exact VLe.refl _))
   obtain rfl:j=M.length:=by omega
   have q1:((M.length:Int)<M.length)=False:=eq_false (by omega)
   have eFt:F.take M.length=F:=List.take_of_length_le (by omega)
   rw [eFt]
   have zm1: ∀g,valL g .len [ql M2]= .int .i64 M2.length:=fun _=>rfl
   have zm2: ∀g,okL g .len [ql M2]=True:=fun _=>eq_true trivial
   simp (disch:=omega) only [List.replicate,shH,q1,zm1,zm2,hand,go_sem]
   repeat' first
    |((first|refine cA (c100b _) ?_ ?_|refine cG (fun e=>c100b _) ?_ ?_|refine cU (fun _=>c100b _) ?_ ?_);(next=>exact flk);simp (disch:=omega) only [shH,q1,hand,zm1,zm2,go_sem])
    |((first|apply qc|apply qb);exact rvk;simp only [go_sem];first|exact VLe.refl _|apply qd|apply qa|apply qe|skip)
    |with_reducible first|refine And.intro ?_ ?_|intro _
   all_goals try exact clz
   refine qo (T:=fun j:Nat×Nat×AObj=>qI 151 [(0,strs names),(4,.op h.length 1 0),(9,.op (h.length+2) 1 0),(10,.op (h.length+3) 1 0),(14,.op (h.length+7) 1 0),(15,.op (h.length+8) 1 0),(19,.osl (h.length+9) j.2.1 1 0 (F.length+j.1)),(91,ql M2),(92,.int .i64 M2.length),(93,.int .i64 j.1)])
    (H:=fun j=>shH h gs all L (v+1) O5 (ql b) true (zp j.2.1 3 (qn (F++G.take j.1))) O10 j.2.2 (.lp .busy TS LI::tl))
    (inv:=fun j=>j.1≤M2.length∧qD [j.2.2] 0=true∧ ∀n,kX n j.2.2) (m:=fun j=>M2.length-j.1) (0,u,O12) ⟨Nat.zero_le _,b6,b7⟩ ?_ ?_
   ·have e0:F++G.take 0=F:=by simp
    simp only [e0,Nat.add_zero,hFl]
    unfold shH
    refine Wk.temps ?_
    (simp only [List.replicate,go_sem,qj,qh,qg,qi];try (repeat' first|(with_reducible refine And.intro ?_ ?_)|(apply qd;omega)|(apply qa;rfl)|exact VLe.refl _))
   rintro ⟨j,u2,O12⟩ ⟨k1,k2,k3⟩ KB hKB
   simp only at k1 k2 k3 hKB
   have k2': ∀m,qD (O12::m) 0=true:=fun _=>k2
   by_cases hj2:j<M2.length
   ·have q5:((j:Int)<M2.length)=True:=eq_true (by omega)
    obtain ⟨y,hy,hyl,hyG⟩:=hMG j hj2
    have hst:F++G.take (j+1)=(F++G.take j)++ [(gs.length:Int)+y]:=by rw [zu (L:=G) (i:=j) (by omega),hyG,List.append_assoc]
    have eC:=qt (F++G.take j)
    rw [List.length_append,List.length_take,Nat.min_eq_left (by omega)]at eC
    have eTk:List.take (F.length+j) (qn (F++G.take j))=qn (F++G.take j):=List.take_of_length_le (by omega)
    have zg1: ∀g,valL g .len [qv gs]= .int .i64 gs.length:=fun _=>rfl
    have zg2: ∀g,okL g .len [qv gs]=True:=fun _=>eq_true trivial
    have zv: ∀X:List Int,ql X= .sl X.length fun i=> [.int .i64 (X.getD i 0)]:=fun _=>rfl
    simp (disch:=omega) only [List.replicate,shH,q5,k2',zv,hy,zg1,zg2,Nat.mul_one,Int.toNat_natCast,go_sem]
    repeat' first
     |((first|apply qc|apply qb);exact rvk;simp only [go_sem];first|exact VLe.refl _|apply qd|apply qa|apply qe|skip)
     |with_reducible first|refine And.intro ?_ ?_|intro _
    all_goals try exact clz
    have eA:qn (F++G.take j)++ [AV.int .i64 ((gs.length:Int)+y)]=qn (F++G.take (j+1)):=by rw [hst,qG (F++G.take j)];rfl
    try rw [eTk]
    rw [eA]
    refine hKB _ _ (j+1,u2+1,.mem (qs (some O12)+1) 3 [.int .i64 ((gs.length:Int)+y)]) ⟨hj2,rfl,fun n c hc=>by simp only [List.mem_cons,List.not_mem_nil,or_false]at hc;subst hc;rfl⟩ (by simp only;omega) ?_
    simp only [shH,zv]
    refine Wk.temps ?_
    (simp only [List.replicate,go_sem,qj,qh,qg,qi];try (repeat' first|(with_reducible refine And.intro ?_ ?_)|(apply qd;omega)|(apply qa;rfl)|exact VLe.refl _))
   obtain rfl:j=M2.length:=by omega
   have q5:((M2.length:Int)<M2.length)=False:=eq_false (by omega)
   have eGt:F++G.take M2.length=jD gs all L (i'+1):=by rw [List.take_of_length_le (by omega),hplc]
   have eln:F.length+M2.length=(jD gs all L (i'+1)).length:=by rw [hplc,List.length_append];omega
   rw [eGt,eln]
   by_cases h1:(jD gs all L (i'+1)).length<b.length
   ·have r1:(((jD gs all L (i'+1)).length:Int)<b.length)=True:=eq_true (by omega)
    simp (disch:=omega) only [List.replicate,shH,hbc,q5,hfd,zb1,zb2,r1,go_sem]
    repeat' first
     |(refine qu (.int .i64 0) ?_;simp (disch:=omega) only [shH,hbc,q5,hfd,zb1,zb2,r1,go_sem])
     |((first|apply qc|apply qb);exact rvk;simp only [go_sem];first|exact VLe.refl _|apply qd|apply qa|apply qe|skip)
     |with_reducible first|refine And.intro ?_ ?_|intro _
    all_goals try exact clz
    have hbt:bst gs all L (i'+1)=jD gs all L (i'+1):=by rw [hbs',if_pos (by unfold qib;simp [h1])]
    refine hN _ _ (shH h gs all L (v+1) O5 (.osl (h.length+9) u2 1 0 (jD gs all L (i'+1)).length) true (zp u2 3 (qn (jD gs all L (i'+1)))) O10 O12 []) ?_ (by rw [zU,zU]) ⟨_,_,_,_,.inr ⟨i'+1,u2,rfl,by rw [hbt],by rw [hbt]⟩,fun n=>jX (qan _ _),j2,j3,k2,k3,by rw [hfd2]⟩
    rw [qaX]
    rfl
   have r1:(((jD gs all L (i'+1)).length:Int)<b.length)=False:=eq_false (by omega)
   have heq:(jD gs all L (i'+1)).length=b.length:=by omega
   simp (disch:=omega) only [List.replicate,shH,hbc,q5,hfd,zb1,zb2,r1,go_sem]
   repeat' first
    |((first|apply qc|apply qb);exact rvk;simp only [go_sem];first|exact VLe.refl _|apply qd|apply qa|apply qe|skip)
    |with_reducible first|refine And.intro ?_ ?_|intro _
   all_goals try exact clz
   refine cG (fun _=>qzC (jD gs all L (i'+1)) b (h.length+9) u2 _ _ rfl (by simp only [go_sem]) heq (by omega)) (fun _=>by exact flk) ?_
   by_cases h2:qmV (jD gs all L (i'+1)) b<0
   ·have r2:(qmV (jD gs all L (i'+1)) b<0)=True:=eq_true h2
    simp (disch:=omega) only [r2,go_sem]
    repeat' first
     |((first|apply qc|apply qb);exact rvk;simp only [go_sem];first|exact VLe.refl _|apply qd|apply qa|apply qe|skip)
     |with_reducible first|refine And.intro ?_ ?_|intro _
    all_goals try exact clz
    have hbt:bst gs all L (i'+1)=jD gs all L (i'+1):=by rw [hbs',if_pos (by unfold qib;simp [heq,h2])]
    refine hN _ _ (shH h gs all L (v+1) O5 (.osl (h.length+9) u2 1 0 (jD gs all L (i'+1)).length) true (zp u2 3 (qn (jD gs all L (i'+1)))) O10 O12 []) ?_ (by rw [zU,zU]) ⟨_,_,_,_,.inr ⟨i'+1,u2,rfl,by rw [hbt],by rw [hbt]⟩,fun n=>jX (qan _ _),j2,j3,k2,k3,by rw [hfd2]⟩
    rw [qaX]
    rfl
   ·have r2:(qmV (jD gs all L (i'+1)) b<0)=False:=eq_false h2
    simp (disch:=omega) only [r2,go_sem]
    repeat' first
     |((first|apply qc|apply qb);exact rvk;simp only [go_sem];first|exact VLe.refl _|apply qd|apply qa|apply qe|skip)
     |with_reducible first|refine And.intro ?_ ?_|intro _
    all_goals try exact clz
    have hbt:bst gs all L (i'+1)=b:=by rw [hbs',if_neg (by unfold qib;simp [heq,h2])]
    refine hN _ _ (shH h gs all L (v+1) O5 (ql b) true (zp u2 3 (qn (jD gs all L (i'+1)))) O10 O12 []) ?_ (by rw [zU,zU]) ⟨_,_,_,_,.inl ⟨by show ql b=ql (bst gs all L (i'+1));rw [hbt],site_own0⟩,fun n=>jX (qan _ _),j2,j3,k2,k3,by rw [hfd2]⟩
    rw [qaX]
    rfl
 ·rintro hh ⟨bc,O9,O10,O12,b1,b2,b4,b5,b6,b7,rfl⟩
  rw [qcO,hmsl]at b1 ⊢
  have hN1:1≤2^L.length:=Nat.one_le_two_pow
  obtain ⟨N,hN⟩: ∃N,2^L.length=N+1:=⟨2^L.length-1,by omega⟩
  obtain ⟨kb,kb1,kb2⟩:=hbs N
  have hBin: ∀p∈bst gs all L N,0≤p∧p<gs.length+names.length:=fun p hp=>by
   rw [kb2]at hp
   exact hpin (by omega) hp
  have hBl:(bst gs all L N).length≤200:=by
   rw [kb2,qbH]
   have h1:=qF kb.testBit 64
   have h2:=qF (anN all (chN (usM gs L) kb)).testBit 64
   unfold qkY
   omega
  rw [hN]at b1
  rw [show 2^L.length-1=N by omega]
  obtain ⟨fd,hfd⟩: ∃fd,fd=decide (0<2^L.length):=⟨_,rfl⟩
  rw [←hfd]
  obtain ⟨O9',hw⟩: ∃O9',∀TT,Wk TT (h++ [.mem 1 23 [qv gs],.emp 1,.mem 1 122 [.int .u64 ((all:Nat):Int)],.mem 1 37 [ql L],.emp (v+1),O5,.emp 0,.mem 1 37 [bc],.mem 1 4 [.bool fd],O9,O10,.emp 0,O12,.emp 0,.emp 1,.emp 0,.emp 0,.emp 0,.emp 0])
    TT (h++ [.mem 1 23 [qv gs],.emp 1,.mem 1 122 [.int .u64 ((all:Nat):Int)],.mem 1 37 [ql L],.emp (v+1),O5,.emp 0,.mem 1 37 [ql (bst gs all L N)],.mem 1 4 [.bool fd],O9',O10,.emp 0,O12,.emp 0,.emp 1,.emp 0,.emp 0,.emp 0,.emp 0]):=by
   rcases b1 with ⟨rfl,p9⟩|⟨j,u,e,rfl,rfl⟩
   ·exact ⟨O9,fun TT=>Wk.refl _ _⟩
   ·obtain rfl:N=j:=by omega
    refine ⟨.emp (u+1),fun TT=> ?_⟩
    have w:=Wk.fzCell (t:=TT) (h:=h++ [.mem 1 23 [qv gs],.emp 1,.mem 1 122 [.int .u64 ((all:Nat):Int)],.mem 1 37 [ql L],.emp (v+1),O5,.emp 0,.mem 1 37 [.osl (h.length+9) u 1 0 (bst gs all L N).length],.mem 1 4 [.bool fd],zp u 3 (qn (bst gs all L N)),O10,.emp 0,O12,.emp 0,.emp 1,.emp 0,.emp 0,.emp 0,.emp 0])
     (j:=h.length+7) (k:=h.length+9) (i:=0) (v:=1) (ty:=37) (cs:= [.osl (h.length+9) u 1 0 (bst gs all L N).length]) (c:= .osl (h.length+9) u 1 0 (bst gs all L N).length) (c':=ql (bst gs all L N))
     (by simp only [go_sem]) rfl (by simp only [go_sem]) (by omega) (by rw [jv,getO_app];exact kE (fun _=>rfl) rfl)
    simp only [go_sem,List.set_cons_zero]at w
    exact w
  simp (disch:=omega) only [shH,go_sem]
  repeat' first
   |((first|apply qc|apply qb);exact rvk;simp only [go_sem];first|exact VLe.refl _|apply qd|apply qa|apply qe|skip)
   |with_reducible first|refine And.intro ?_ ?_|intro _
  all_goals try exact clz
  refine ⟨_,_,hw _,?_⟩
  obtain ⟨B,hB⟩: ∃B,B=bst gs all L N:=⟨_,rfl⟩
  rw [←hB]at hBin hBl ⊢
  have zb1: ∀g,valL g .len [ql B]= .int .i64 B.length:=fun _=>rfl
  have zb2: ∀g,okL g .len [ql B]=True:=fun _=>eq_true trivial
  simp (disch:=omega) only [zb1,zb2,go_sem]
  repeat' first
   |((first|apply qc|apply qb);exact rvk;simp only [go_sem];first|exact VLe.refl _|apply qd|apply qa|apply qe|skip)
   |with_reducible first|refine And.intro ?_ ?_|intro _
  all_goals try exact clz
  refine qo (T:=fun s:Nat×Nat×AObj×AObj=>qI 151 [(0,strs names),(4,.op h.length 1 0),(24,.osl (h.length+14) s.2.1 1 0 s.1),(121,ql B),(122,.int .i64 B.length),(123,.int .i64 s.1)])
   (H:=fun s=>h++ [.mem 1 23 [qv gs],.emp 1,.mem 1 122 [.int .u64 ((all:Nat):Int)],.mem 1 37 [ql L],.emp (v+1),O5,.emp 0,.mem 1 37 [ql B],.mem 1 4 [.bool fd],O9',O10,.emp 0,O12,.emp 0,zp s.2.1 9 (zR ((B.map (j9 names gs)).take s.1)),s.2.2.1,.emp 0,s.2.2.2,.emp 0])
   (inv:=fun s=>s.1≤B.length∧qD [s.2.2.1] 0=true∧qD [s.2.2.2] 0=true) (m:=fun s=>B.length-s.1) (0,1,.emp 0,.emp 0) ⟨Nat.zero_le _,rfl,rfl⟩ (Wk.temps ?_) ?_
  ·(simp only [List.replicate,go_sem,qj,qh,qg,qi];try (repeat' first|(with_reducible refine And.intro ?_ ?_)|(apply qd;omega)|(apply qa;rfl)|exact VLe.refl _))
  rintro ⟨i,u,O15,O17⟩ ⟨i1,i2,i3⟩ K hK
  simp only at i1 i2 i3 hK
  have i2': ∀m,qD (O15::m) 0=true:=fun _=>i2
  have i3': ∀m,qD (O17::m) 0=true:=fun _=>i3
  have eCl:i≤B.length→(zR ((B.map (j9 names gs)).take i)).length=i:=fun hi=>by rw [zd,List.length_take,List.length_map];omega
  have zv: ∀X:List Int,ql X= .sl X.length fun i=> [.int .i64 (X.getD i 0)]:=fun _=>rfl
  by_cases hi:i<B.length
  ·have q1:((i:Int)<B.length)=True:=eq_true (by omega)
   have hm:B.getD i 0∈B:=by rw [gdqA,q9 hi];exact List.getElem_mem hi
   obtain ⟨p0,p1⟩:=hBin _ hm
   have hst:(B.map (j9 names gs)).take (i+1)=(B.map (j9 names gs)).take i++ [j9 names gs (B.getD i 0)]:=by
    rw [←List.map_take,←List.map_take,zu hi,List.map_append]
    rfl
   have eTk:List.take i (zR ((B.map (j9 names gs)).take i))=zR ((B.map (j9 names gs)).take i):=List.take_of_length_le (by rw [eCl (by omega)];exact Nat.le_refl _)
   have eC:=eCl (by omega)
   have zg1: ∀g,valL g .len [qv gs]= .int .i64 gs.length:=fun _=>rfl
   have zg2: ∀g,okL g .len [qv gs]=True:=fun _=>eq_true trivial
   obtain ⟨y,hy⟩: ∃y:Nat,B.getD i 0=(y:Int):=⟨(B.getD i 0).toNat,by omega⟩
   rw [hy]at hst p1
   by_cases hg:y<gs.length
   ·have q2:((y:Int)<gs.length)=True:=eq_true (by omega)
    have q3:(0≤(y:Int))=True:=eq_true (by omega)
    have hsg:j9 names gs (y:Int)=(gs.getD y default).name:=by unfold j9;rw [if_pos (by omega),Int.toNat_natCast]
    rw [hsg]at hst
    simp (disch:=omega) only [List.replicate,zv,qv,grC,q1,q2,q3,hy,i2',Nat.mul_one,Int.toNat_natCast,go_sem]
    repeat' first
     |((first|apply qc|apply qb);exact rvk;simp only [go_sem];first|exact VLe.refl _|apply qd|apply qa|apply qe|skip)
     |with_reducible first|refine And.intro ?_ ?_|intro _
    all_goals try exact clz
    have eA:zR ((B.map (j9 names gs)).take i)++ [AV.str (gs.getD y default).name]=zR ((B.map (j9 names gs)).take (i+1)):=by rw [hst,kH];rfl
    try rw [eTk]
    rw [eA]
    refine hK _ _ (i+1,u+1,.mem (qs (some O15)+1) 9 [.str (gs.getD y default).name],O17) ⟨hi,rfl,i3⟩ (by simp only;omega) ?_
    simp only [zv,qv,grC]
    refine Wk.temps ?_
    (simp only [List.replicate,go_sem,qj,qh,qg,qi];try (repeat' first|(with_reducible refine And.intro ?_ ?_)|(apply qd;omega)|(apply qa;rfl)|exact VLe.refl _))
   ·have q2:((y:Int)<gs.length)=False:=eq_false (by omega)
    obtain ⟨z,hz⟩: ∃z:Nat,(y:Int)-gs.length=(z:Int):=⟨y-gs.length,by omega⟩
    have q3:((z:Int)<names.length)=True:=eq_true (by omega)
    have q4:(0≤(z:Int))=True:=eq_true (by omega)
    have hsg:j9 names gs (y:Int)=names.getD z []:=by unfold j9;rw [if_neg (by omega),hz,Int.toNat_natCast]
    rw [hsg]at hst
    simp (disch:=omega) only [List.replicate,zv,strs,zg1,zg2,q1,q2,q3,q4,hy,hz,i3',Nat.mul_one,Int.toNat_natCast,go_sem]
    repeat' first
     |((first|apply qc|apply qb);exact rvk;simp only [go_sem];first|exact VLe.refl _|apply qd|apply qa|apply qe|skip)
     |with_reducible first|refine And.intro ?_ ?_|intro _
    all_goals try exact clz
    have eA:zR ((B.map (j9 names gs)).take i)++ [AV.str (names.getD z [])]=zR ((B.map (j9 names gs)).take (i+1)):=by rw [hst,kH];rfl
    try rw [eTk]
    rw [eA]
    refine hK _ _ (i+1,u+1,O15,.mem (qs (some O17)+1) 9 [.str (names.getD z [])]) ⟨hi,i2,rfl⟩ (by simp only;omega) ?_
    simp only [zv,strs]
    refine Wk.temps ?_
    (simp only [List.replicate,go_sem,qj,qh,qg,qi];try (repeat' first|(with_reducible refine And.intro ?_ ?_)|(apply qd;omega)|(apply qa;rfl)|exact VLe.refl _))
  ·obtain rfl:i=B.length:=by omega
   have q1:((B.length:Int)<B.length)=False:=eq_false (by omega)
   have eAll:(B.map (j9 names gs)).take B.length=B.map (j9 names gs):=List.take_of_length_le (by simp)
   rw [eAll]
   simp (disch:=omega) only [List.replicate,q1,go_sem]
   repeat' first
    |((first|apply qc|apply qb);exact rvk;simp only [go_sem];first|exact VLe.refl _|apply qd|apply qa|apply qe|skip)
    |with_reducible first|refine And.intro ?_ ?_|intro _
   all_goals try exact clz
   exact qK ⟨qgh (fun _=>rfl) (by simp),VLe.refl _,trivial⟩
end RC
end
section
open Go Go.Proofs AF HY LN
namespace RC
set_option maxHeartbeats 8000000
theorem qb0 (p:Nat→Bool) (n:Nat):(qP p n).Pairwise (· < ·):=by
 unfold qP
 rw [List.pairwise_map]
 exact ((List.pairwise_lt_range (n:=n)).filter _).imp fun h=>by simpa using h
theorem qvZ {l:List Int} (h: ∀i,0<i→i<l.length→l.getD (i-1) 0<l.getD i 0):l.Pairwise (· < ·):=by
 rw [List.pairwise_iff_getElem]
 have key: ∀j i,(hj:j<l.length)→i<j→l.getD i 0<l.getD j 0:=by
  intro j
  induction j with
  |zero=>intro i _ h;omega
  |succ j ih=>
   intro i hj hi
   have h1:=h (j+1) (by omega) hj
   rw [Nat.add_sub_cancel]at h1
   by_cases e:i=j
   ·subst e;exact h1
   ·have:=ih i (by omega) (by omega)
    omega
 intro i j hi hj hij
 have:=key j i hj hij
 rw [gdqA,q9 hi,gdqA,q9 hj]at this
 exact this
theorem qf1 {l:List Int} (h:l.Pairwise (· < ·)):l.Nodup:=h.imp fun h e=>by omega
theorem qrz {l m:List Int} (hl:l.Pairwise (· < ·)) (hm:m.Pairwise (· < ·)) (h: ∀x,x∈l↔x∈m):l=m:=
 List.Perm.eq_of_pairwise (le:=(· < ·)) (fun a b _ _ h1 h2=>by omega) hl hm ((List.perm_ext_iff_of_nodup (qf1 hl) (qf1 hm)).2 h)
theorem qow {l:List Int} {n:Nat} (hn:n≤64) (h:kL n l=0):l=qP (j5 l).testBit 64:=by
 obtain ⟨h1,h2⟩:=jZ h
 have h64:inB 64 l:=fun i hi=>by have:=h1 i hi;omega
 refine qrz (qvZ h2) (qb0 _ _) fun x=> ?_
 rw [qas]
 constructor
 ·intro hx
  have hb:=zJ h64 x hx
  exact ⟨x.toNat,by omega,by rw [jW h64];exact decide_eq_true (by rw [show ((x.toNat:Nat):Int)=x by omega];exact hx),by omega⟩
 ·rintro ⟨k,_,hk,rfl⟩
  rw [jW h64]at hk
  exact of_decide_eq_true hk
theorem qeU (p q:Nat→Bool) (n:Nat):(qP p n).filter (fun x=>q x.toNat)=qP (fun k=>p k&&q k) n:=by
 unfold qP
 rw [List.filter_map,List.filter_filter]
 congr 1
 refine List.filter_congr fun k _=> ?_
 show (q (Int.ofNat k).toNat&&p k)=(p k&&q k)
 rw [show (Int.ofNat k).toNat=k from rfl,Bool.and_comm]
theorem qmx {a b:Nat} (ha:a<2^64) (hb:b<2^64):anN a b=0↔ ∀k,a.testBit k=true→b.testBit k=true:=by
 constructor
 ·intro h k hk
  have:=qeu ha hb k
  rw [h,Nat.zero_testBit,hk,Bool.true_and]at this
  cases e:b.testBit k with
  |true=>rfl
  |false=>rw [e]at this;cases this
 ·intro h
  refine Nat.eq_of_testBit_eq fun k=> ?_
  rw [qeu ha hb,Nat.zero_testBit]
  cases e:a.testBit k with
  |false=>rfl
  |true=>rw [h k e];rfl
theorem qsT {gs:List Gr} {l:List Int} {i:Nat} (hm:inB 64 (gs.getD i default).mem) (hl:inB 64 l):qgq gs (j5 l) i=decide (∀x∈(gs.getD i default).mem,x∈l):=by
 unfold qgq
 refine decide_eq_decide.2 ?_
 rw [qmx (qb3 hm) (qb3 hl)]
 constructor
 ·intro h x hx
  have hb:=zJ hm x hx
  have:=h x.toNat (by rw [jW hm];exact decide_eq_true (by rw [show ((x.toNat:Nat):Int)=x by omega];exact hx))
  rw [jW hl]at this
  have:=of_decide_eq_true this
  rw [show ((x.toNat:Nat):Int)=x by omega]at this
  exact this
 ·intro h k hk
  rw [jW hm]at hk
  rw [jW hl]
  exact decide_eq_true (h _ (of_decide_eq_true hk))
theorem qqy {a b:Int}:qbk a b<0↔a<b:=by
 unfold qbk
 split
 ·simp;omega
 ·split
  ·simp;omega
  ·simp;omega
theorem qps {a b:Int}:qbk a b=0↔a=b:=by
 unfold qbk
 split
 ·constructor
  ·intro h;cases h
  ·intro h;omega
 ·split
  ·constructor
   ·intro h;cases h
   ·intro h;omega
  ·constructor
   ·intro h;omega
   ·intro h;rfl
theorem qzs (a b:List Int) (h:List AObj) (ha:a.length≤1000000000) (hb:b.length≤1000000000):qm Tryz.prog 109 [ql a,ql b] h (.bool (qib a b)) h:=by
 have z1: ∀g,valL g .len [ql a]= .int .i64 a.length:=fun _=>rfl
 have z2: ∀g,okL g .len [ql a]=True:=fun _=>eq_true trivial
 have z3: ∀g,valL g .len [ql b]= .int .i64 b.length:=fun _=>rfl
 have z4: ∀g,okL g .len [ql b]=True:=fun _=>eq_true trivial
 obtain ⟨R,hR⟩: ∃R,R=qib a b:=⟨_,rfl⟩
 rw [←hR]
 unfold qib at hR
 by_cases hl:a.length=b.length
 case neg=>
  have k0:((a.length:Int)=b.length)=False:=eq_false (by omega)
  rw [decide_eq_false hl,Bool.false_and,Bool.or_false]at hR
  have e:decide ((a.length:Int)<b.length)=R:=by rw [hR];exact decide_eq_decide.2 (by omega)
  refine acO qpv ?_
  simp (disch:=omega) only [qqj,List.replicate,z1,z2,z3,z4,k0,go_sem]
  repeat' first
   |((first|apply qc|apply qb);exact rvk;simp only [go_sem];first|exact VLe.refl _|apply qd|apply qa|apply qe|skip)
   |with_reducible first|refine And.intro ?_ ?_|intro _
  all_goals try exact clz
 have k0:((a.length:Int)=b.length)=True:=eq_true (by omega)
 rw [decide_eq_false (by omega),Bool.false_or,decide_eq_true hl,Bool.true_and]at hR
 unfold qmV at hR
 refine acO qpv ?_
 simp (disch:=omega) only [qqj,List.replicate,z1,z2,z3,z4,k0,go_sem]
 repeat' first
  |((first|apply qc|apply qb);exact rvk;simp only [go_sem];first|exact VLe.refl _|apply qd|apply qa|apply qe|skip)
  |with_reducible first|refine And.intro ?_ ?_|intro _
 all_goals try exact clz
 refine qo (T:=fun i:Nat=>qI 40 [(0,ql a),(1,ql b),(5,.int .i64 i)]) (H:=fun _=>h) (inv:=fun i=>i≤a.length∧ ∀j,j<i→(fun i=>qbk (a.getD i 0) (b.getD i 0)) j=0) (m:=fun i=>a.length-i) 0 ⟨Nat.zero_le _,fun j hj=>by omega⟩ (Wk.temps ?_) ?_
 ·(simp only [List.replicate,go_sem,qj,qh,qg,qi];try (repeat' first|(with_reducible refine And.intro ?_ ?_)|(apply qd;omega)|(apply qa;rfl)|exact VLe.refl _))
 rintro i ⟨i1,i2⟩ K hK
 have zv: ∀X:List Int,ql X= .sl X.length fun i=> [.int .i64 (X.getD i 0)]:=fun _=>rfl
 by_cases hi:i<a.length
 ·have k1:((i:Int)<a.length)=True:=eq_true (by omega)
  have k2:((i:Int)<b.length)=True:=eq_true (by omega)
  have hE:=qU (f:=fun i=>qbk (a.getD i 0) (b.getD i 0)) hi i2
  by_cases g:a.getD i 0=b.getD i 0
  ·have k3:(a.getD i 0=b.getD i 0)=True:=eq_true g
   simp (disch:=omega) only [List.replicate,zv,k1,k2,k3,go_sem]
   repeat' first
    |((first|apply qc|apply qb);exact rvk;simp only [go_sem];first|exact VLe.refl _|apply qd|apply qa|apply qe|skip)
    |with_reducible first|refine And.intro ?_ ?_|intro _
   all_goals try exact clz
   refine hK _ _ (i+1) ⟨hi,fun j hj=> ?_⟩ (by omega) (Wk.temps ?_)
   ·by_cases e:j=i
    ·subst e;exact qps.2 g
    ·exact i2 j (by omega)
   ·(simp only [List.replicate,zv,go_sem,qj,qh,qg,qi];try (repeat' first|(with_reducible refine And.intro ?_ ?_)|(apply qd;omega)|(apply qa;rfl)|exact VLe.refl _))
  ·have k3:(a.getD i 0=b.getD i 0)=False:=eq_false g
   rw [hE (fun hc=>g (qps.1 hc))]at hR
   have e:decide (a.getD i 0<b.getD i 0)=R:=by rw [hR];exact decide_eq_decide.2 qqy.symm
   simp (disch:=omega) only [List.replicate,zv,k1,k2,k3,go_sem]
   repeat' first
    |((first|apply qc|apply qb);exact rvk;simp only [go_sem];first|exact VLe.refl _|apply qd|apply qa|apply qe|skip)
    |with_reducible first|refine And.intro ?_ ?_|intro _
   all_goals try exact clz
 ·have k1:((i:Int)<a.length)=False:=eq_false (by omega)
  have hz:=qE (f:=fun i=>qbk (a.getD i 0) (b.getD i 0)) (n:=a.length) (fun j hj=>i2 j (by omega))
  rw [hz]at hR
  have e:R=false:=by rw [hR];rfl
  rw [e]
  simp (disch:=omega) only [List.replicate,z1,z2,k1,go_sem]
  repeat' first
   |((first|apply qc|apply qb);exact rvk;simp only [go_sem];first|exact VLe.refl _|apply qd|apply qa|apply qe|skip)
   |with_reducible first|refine And.intro ?_ ?_|intro _
  all_goals try exact clz
theorem qzz (names:List Str) (gs:List Gr) (set:List Int) (h:List AObj) (hz:Szs names gs) (hs:set.length≤1000000000):qm Tryz.prog 141 [strs names,qv gs,ql set] h (.int .i64 (qbs names gs set)) h:=by
 have c49:=fun h=>sgR names gs h hz
 have c83:=fun h=>qzc set names.length h hs
 have zl: ∀g,valL g .len [strs names]= .int .i64 names.length:=fun _=>rfl
 have zo: ∀g,okL g .len [strs names]=True:=fun _=>eq_true trivial
 unfold qbs
 by_cases g:sgE names gs=0
 ·rw [if_pos g]
  simp only [g]at c49
  refine acO qpy ?_
  simp (disch:=omega) only [qqm,List.replicate,zl,zo,go_sem]
  repeat' first
   |((first|refine cA (c49 _) ?_ ?_|refine cG (fun e=>c49 _) ?_ ?_|refine cA (c83 _) ?_ ?_|refine cG (fun e=>c83 _) ?_ ?_|refine cU (fun _=>c49 _) ?_ ?_|refine cU (fun _=>c83 _) ?_ ?_);(next=>exact flk);simp (disch:=omega) only [zl,zo,go_sem])
   |((first|apply qc|apply qb);exact rvk;simp only [go_sem];first|exact VLe.refl _|apply qd|apply qa|apply qe|skip)
   |with_reducible first|refine And.intro ?_ ?_|intro _
  all_goals try exact clz
 ·rw [if_neg g]
  have k:(sgE names gs=0)=False:=eq_false g
  refine acO qpy ?_
  simp (disch:=omega) only [qqm,List.replicate,zl,zo,k,go_sem]
  repeat' first
   |((first|refine cA (c49 _) ?_ ?_|refine cG (fun e=>c49 _) ?_ ?_|refine cA (c83 _) ?_ ?_|refine cG (fun e=>c83 _) ?_ ?_|refine cU (fun _=>c49 _) ?_ ?_|refine cU (fun _=>c83 _) ?_ ?_);(next=>exact flk);simp (disch:=omega) only [zl,zo,k,go_sem])
   |((first|apply qc|apply qb);exact rvk;simp only [go_sem];first|exact VLe.refl _|apply qd|apply qa|apply qe|skip)
   |with_reducible first|refine And.intro ?_ ?_|intro _
  all_goals try exact clz
theorem qAt (a b:List Int) (h:List AObj) (ha:a.length≤1000000000) (hb:b.length≤1000000000):qm Tryz.prog 142 [ql a,ql b] h (.bool (decide (∀x∈a,x∈b))) h:=by
 have z1: ∀g,valL g .len [ql a]= .int .i64 a.length:=fun _=>rfl
 have z2: ∀g,okL g .len [ql a]=True:=fun _=>eq_true trivial
 obtain ⟨R,hR⟩: ∃R,R=decide (∀x∈a,x∈b):=⟨_,rfl⟩
 rw [←hR]
 refine acO qux ?_
 simp (disch:=omega) only [qtw,List.replicate,z1,z2,go_sem]
 repeat' first
  |((first|apply qc|apply qb);exact rvk;simp only [go_sem];first|exact VLe.refl _|apply qd|apply qa|apply qe|skip)
  |with_reducible first|refine And.intro ?_ ?_|intro _
 all_goals try exact clz
 refine qo (T:=fun i:Nat=>qI 19 [(0,ql a),(1,ql b),(5,.int .i64 i)]) (H:=fun _=>h) (inv:=fun i=>i≤a.length∧ ∀j,j<i→a.getD j 0∈b) (m:=fun i=>a.length-i) 0 ⟨Nat.zero_le _,fun j hj=>by omega⟩ (Wk.temps ?_) ?_
 ·(simp only [List.replicate,go_sem,qj,qh,qg,qi];try (repeat' first|(with_reducible refine And.intro ?_ ?_)|(apply qd;omega)|(apply qa;rfl)|exact VLe.refl _))
 rintro i ⟨i1,i2⟩ K hK
 have zv:ql a= .sl a.length fun i=> [.int .i64 (a.getD i 0)]:=rfl
 by_cases hi:i<a.length
 ·have k1:((i:Int)<a.length)=True:=eq_true (by omega)
  have c56:=fun h=>qrl b (a.getD i 0) h hb
  by_cases g:a.getD i 0∈b
  ·simp only [decide_eq_true g]at c56
   simp (disch:=omega) only [List.replicate,zv,k1,go_sem]
   repeat' first
    |((first|refine cA (c56 _) ?_ ?_|refine cG (fun e=>c56 _) ?_ ?_|refine cU (fun _=>c56 _) ?_ ?_);(next=>exact flk);simp (disch:=omega) only [zv,k1,go_sem])
    |((first|apply qc|apply qb);exact rvk;simp only [go_sem];first|exact VLe.refl _|apply qd|apply qa|apply qe|skip)
    |with_reducible first|refine And.intro ?_ ?_|intro _
   all_goals try exact clz
   refine hK _ _ (i+1) ⟨hi,fun j hj=> ?_⟩ (by omega) (Wk.temps ?_)
   ·by_cases e:j=i
    ·subst e;exact g
    ·exact i2 j (by omega)
   ·(simp only [List.replicate,zv,go_sem,qj,qh,qg,qi];try (repeat' first|(with_reducible refine And.intro ?_ ?_)|(apply qd;omega)|(apply qa;rfl)|exact VLe.refl _))
  ·simp only [decide_eq_false g]at c56
   have e:R=false:=by
    rw [hR]
    refine decide_eq_false fun hc=>g (hc _ ?_)
    rw [gdqA,q9 hi]
    exact List.getElem_mem hi
   rw [e]
   simp (disch:=omega) only [List.replicate,zv,k1,go_sem]
   repeat' first
    |((first|refine cA (c56 _) ?_ ?_|refine cG (fun e=>c56 _) ?_ ?_|refine cU (fun _=>c56 _) ?_ ?_);(next=>exact flk);simp (disch:=omega) only [zv,k1,go_sem])
    |((first|apply qc|apply qb);exact rvk;simp only [go_sem];first|exact VLe.refl _|apply qd|apply qa|apply qe|skip)
    |with_reducible first|refine And.intro ?_ ?_|intro _
   all_goals try exact clz
 ·have k1:((i:Int)<a.length)=False:=eq_false (by omega)
  have e:R=true:=by
   rw [hR]
   refine decide_eq_true fun x hx=> ?_
   obtain ⟨j,hj,rfl⟩:=List.getElem_of_mem hx
   have:=i2 j (by omega)
   rw [gdqA,q9 hj]at this
   exact this
  rw [e]
  simp (disch:=omega) only [List.replicate,z1,z2,k1,go_sem]
  repeat' first
   |((first|apply qc|apply qb);exact rvk;simp only [go_sem];first|exact VLe.refl _|apply qd|apply qa|apply qe|skip)
   |with_reducible first|refine And.intro ?_ ?_|intro _
  all_goals try exact clz
end RC
end
section
open Go Go.Proofs AF HY LN
namespace RC
set_option maxHeartbeats 16000000
theorem qdp {n:Int} (h0:0≤n) (h1:n<9223372036854775808):IntKind.i64.wrap n=n:=qk (by omega) (by omega)
theorem qqh {a n:Nat} (ha:a<2^62) (hn:n<62):qp8 .i64 (qsi .i64 (a:Int) (n:Int)) 1=if a.testBit n=true then 1 else 0:=by
 have e1:qsi .i64 (a:Int) (n:Int)=((a>>>n:Nat):Int):=by
  unfold qsi
  rw [show IntKind.bits IntKind.i64=64 from rfl,Int.toNat_natCast,Nat.min_eq_left (by omega),Nat.shiftRight_eq_div_pow,show ((2:Int)^n)=((2^n:Nat):Int) by simp,Int.fdiv_eq_ediv_of_nonneg _ (Int.natCast_nonneg _)]
  rfl
 have hlt:a>>>n<2^62:=Nat.lt_of_le_of_lt (by rw [Nat.shiftRight_eq_div_pow];exact Nat.div_le_self _ _) ha
 have e2: ∀b:Nat,b<2^62→qp8 .i64 (b:Int) 1=((b&&&1:Nat):Int):=fun b hb=>by
  unfold qp8
  rw [show IntKind.bits IntKind.i64=64 from rfl,show (1:Int)=((1:Nat):Int)from rfl,zY,zY,BitVec.toNat_and,BitVec.toNat_ofNat,BitVec.toNat_ofNat,Nat.mod_eq_of_lt (by omega),Nat.mod_eq_of_lt (by decide)]
  have:b&&&1≤1:=Nat.and_le_right
  exact qdp (by omega) (by omega)
 rw [e1,e2 _ hlt]
 have:(a>>>n)&&&1=(a.testBit n).toNat:=by rw [Nat.testBit];simp [Nat.and_comm 1];rcases Nat.mod_two_eq_zero_or_one (a>>>n)with h|h<;>simp [h]
 rw [this]
 cases a.testBit n<;>rfl
theorem qsh {n:Nat} (hn:n<62):qs4 .i64 1 (n:Int)=((2^n:Nat):Int):=by
 unfold qs4
 rw [show IntKind.bits IntKind.i64=64 from rfl,Int.toNat_natCast,Nat.min_eq_left (by omega)]
 have h2:(2:Nat)^n<2^62:=Nat.pow_lt_pow_right (by omega) hn
 rw [Int.one_mul,show ((2:Int)^n)=((2^n:Nat):Int) by simp]
 exact qdp (Int.natCast_nonneg _) (by omega)
theorem qzQ (names:List Str) (gs:List Gr) (set:List Int) (h:List AObj) (hz:Szs names gs) (hs:set.length≤1000000000) (h8:qbs names gs set=0→names.length≤64):
  qm Tryz.prog 107 [strs names,qv gs,ql set] h (.tup [ql (if qbs names gs set=0 then qa3 gs (j5 set) else []),.int .i64 (qbs names gs set)]) h:=by
 have c141:=fun h=>qzz names gs set h hz hs
 by_cases g:qbs names gs set=0
 case neg=>
  have k0:(qbs names gs set=0)=False:=eq_false g
  rw [if_neg g]
  refine acO qpu ?_
  simp (disch:=omega) only [qqi,List.replicate,k0,go_sem]
  repeat' first
   |((first|refine cA (c141 _) ?_ ?_|refine cG (fun e=>c141 _) ?_ ?_|refine cU (fun _=>c141 _) ?_ ?_);(next=>exact flk);simp (disch:=omega) only [k0,go_sem])
   |((first|apply qc|apply qb);exact rvk;simp only [go_sem];first|exact VLe.refl _|apply qd|apply qa|apply qe|skip)
   |with_reducible first|refine And.intro ?_ ?_|intro _
  all_goals try exact clz
  exact zb
 rw [if_pos g,g]
 simp only [g]at c141
 have n64:=h8 g
 have hse:sgE names gs=0∧kL names.length set=0:=by
  unfold qbs at g
  split at g
  ·rename_i h;exact ⟨h,g⟩
  ·cases g
 have hin:=(jZ hse.2).1
 have hin64:inB 64 set:=fun i hi=>by have:=hin i hi;omega
 have hmi:=qeP hse.1
 have hml:=hz.gm
 have hgl:=hz.g
 have zl: ∀g,valL g .len [qv gs]= .int .i64 gs.length:=fun _=>rfl
 have zo: ∀g,okL g .len [qv gs]=True:=fun _=>eq_true trivial
 have hW:qa3 gs (j5 set)=qP (qgq gs (j5 set)) gs.length:=rfl
 rw [hW]
 obtain ⟨pB,hpB⟩: ∃pB,pB=qgq gs (j5 set):=⟨_,rfl⟩
 have hpi: ∀i,pB i=decide (∀x∈(gs.getD i default).mem,x∈set):=fun i=>by rw [hpB];exact qsT (hmi i) hin64
 rw [←hpB]
 refine acO qpu ?_
 simp (disch:=omega) only [qqi,List.replicate,go_sem]
 repeat' first
  |((first|refine cA (c141 _) ?_ ?_|refine cG (fun e=>c141 _) ?_ ?_|refine cU (fun _=>c141 _) ?_ ?_);(next=>exact flk);simp (disch:=omega) only [go_sem])
  |((first|apply qc|apply qb);exact rvk;simp only [go_sem];first|exact VLe.refl _|apply qd|apply qa|apply qe|skip)
  |with_reducible first|refine And.intro ?_ ?_|intro _
 all_goals try exact clz
 have e0:za [AV.int .i64 0] 0=qn (qP pB 0):=rfl
 rw [e0]
 refine qo (T:=fun i:Nat×Nat×AObj=>qI 37 [(1,qv gs),(2,ql set),(9,.osl (h.length+1) i.2.1 1 0 (qP pB i.1).length),(10,.int .i64 i.1)])
  (H:=fun i=>h++ [.emp 1,.mem i.2.1 3 (qn (qP pB i.1)),i.2.2,.emp 0])
  (inv:=fun i=>i.1≤gs.length∧qD [i.2.2] 0=true) (m:=fun i=>gs.length-i.1) (0,1,.emp 0) ⟨Nat.zero_le _,rfl⟩ (Wk.temps ?_) ?_
 ·(simp only [qP,List.range_zero,List.filter_nil,List.length_nil,List.map_nil,List.replicate,go_sem,qj,qh,qg,qi];try (repeat' first|(with_reducible refine And.intro ?_ ?_)|(apply qd;omega)|(apply qa;rfl)|exact VLe.refl _))
 rintro ⟨i,v,O⟩ ⟨i1,i2⟩ K hK
 simp only at i1 i2 hK
 have i2': ∀m,qD (O::m) 0=true:=fun _=>i2
 have hst:=zC pB i
 have hln:=qF pB i
 have hp:=hpi i
 obtain ⟨L,hL⟩: ∃L,L=qP pB i:=⟨_,rfl⟩
 rw [←hL]at hst hln
 have eL:=hL.symm
 have eC:=qt L
 by_cases hi:i<gs.length
 ·have k1:((i:Int)<gs.length)=True:=eq_true (by omega)
  have c142:=fun h=>qAt (gs.getD i default).mem set h (hml i) hs
  simp only [←hp]at c142
  obtain ⟨gr,hgr⟩: ∃gr,gr=gs.getD i default:=⟨_,rfl⟩
  have egr:=hgr.symm
  simp only [egr]at c142
  have eTk:List.take L.length (qn L)=qn L:=List.take_of_length_le (by omega)
  cases hb:pB i with
  |true=>
   rw [hb,if_pos rfl]at hst
   rw [hb]at c142
   simp (disch:=omega) only [List.replicate,qv,grC,k1,i2',eL,egr,Nat.mul_one,go_sem]
   repeat' first
    |((first|refine cA (c142 _) ?_ ?_|refine cG (fun e=>c142 _) ?_ ?_|refine cU (fun _=>c142 _) ?_ ?_);(next=>exact flk);simp (disch:=omega) only [qv,grC,k1,i2',eL,egr,eC,eTk,Nat.mul_one,go_sem])
    |((first|apply qc|apply qb);exact rvk;simp only [go_sem];first|exact VLe.refl _|apply qd|apply qa|apply qe|skip)
    |with_reducible first|refine And.intro ?_ ?_|intro _
   all_goals try exact clz
   have eA:qn L++ [AV.int .i64 (i:Int)]=qn (qP pB (i+1)):=by rw [hst,qG];rfl
   try rw [eTk]
   rw [eA]
   refine hK _ _ (i+1,v+1,.mem (qs (some O)+1) 3 [.int .i64 (i:Int)]) ⟨hi,rfl⟩ (by simp only;omega) ?_
   simp only [hst,List.length_append,List.length_cons,List.length_nil,qv,grC]
   refine Wk.temps ?_
   (simp only [List.replicate,go_sem,qj,qh,qg,qi];try (repeat' first|(with_reducible refine And.intro ?_ ?_)|(apply qd;omega)|(apply qa;rfl)|exact VLe.refl _))
  |false=>
   rw [hb,if_neg (by simp),List.append_nil]at hst
   rw [hb]at c142
   simp (disch:=omega) only [List.replicate,qv,grC,k1,i2',eL,egr,go_sem]
   repeat' first
    |((first|refine cA (c142 _) ?_ ?_|refine cG (fun e=>c142 _) ?_ ?_|refine cU (fun _=>c142 _) ?_ ?_);(next=>exact flk);simp (disch:=omega) only [qv,grC,k1,i2',eL,egr,go_sem])
    |((first|apply qc|apply qb);exact rvk;simp only [go_sem];first|exact VLe.refl _|apply qd|apply qa|apply qe|skip)
    |with_reducible first|refine And.intro ?_ ?_|intro _
   all_goals try exact clz
   refine hK _ _ (i+1,v,O) ⟨hi,i2⟩ (by simp only;omega) ?_
   simp only [hst,qv,grC]
   refine Wk.temps ?_
   (simp only [List.replicate,go_sem,qj,qh,qg,qi];try (repeat' first|(with_reducible refine And.intro ?_ ?_)|(apply qd;omega)|(apply qa;rfl)|exact VLe.refl _))
 ·obtain rfl:i=gs.length:=by omega
  have k1:((gs.length:Int)<gs.length)=False:=eq_false (by omega)
  rw [eL]
  simp (disch:=omega) only [List.replicate,zl,zo,k1,eL,go_sem]
  repeat' first
   |((first|apply qc|apply qb);exact rvk;simp only [go_sem];first|exact VLe.refl _|apply qd|apply qa|apply qe|skip)
   |with_reducible first|refine And.intro ?_ ?_|intro _
  all_goals try exact clz
  refine qK ⟨?_,VLe.refl _,trivial⟩
  rw [if_pos (by omega)]
  exact zr _ (fun _=>rfl) rfl
end RC
end
section
open Go Go.Proofs AF HY LN
namespace RC
set_option maxHeartbeats 16000000
def qes (gs:List Gr) (sm:List Int) (bits all i:Nat):List Int:=qP (fun k=>all.testBit k&& !(qeV (usM gs sm) bits i).testBit k) 64
def qc7 (sm:List Int) (bits i:Nat):List Int:=(qP bits.testBit i).map fun k=>sm.getD k.toNat 0
theorem qla (gs:List Gr) (sm:List Int) (bits all:Nat):qes gs sm bits all 0=qP all.testBit 64:=by
 unfold qes
 refine kD fun k _=> ?_
 show (all.testBit k&& !(0:Nat).testBit k)=_
 rw [Nat.zero_testBit]
 simp
theorem qk8 {gs:List Gr} {sm:List Int} {bits all i:Nat} (hb:bits.testBit i=false):qes gs sm bits all (i+1)=qes gs sm bits all i:=by
 unfold qes
 rw [qb2,hb,if_neg (by simp)]
theorem qk9 {gs:List Gr} {sm:List Int} {bits all i:Nat} (hb:bits.testBit i=true) (hi:i<sm.length) (hm: ∀i,inB 64 (gs.getD i default).mem):
  qes gs sm bits all (i+1)=(qes gs sm bits all i).filter fun x=> !decide (x∈(gs.getD (sm.getD i 0).toNat default).mem):=by
 unfold qes
 rw [qb2,hb,if_pos rfl,qfr hi]
 have e: ∀l:List Int,(∀x∈l,0≤x)→l.filter (fun x=> !decide (x∈(gs.getD (sm.getD i 0).toNat default).mem))=l.filter fun x=>(fun k=> !(j5 (gs.getD (sm.getD i 0).toNat default).mem).testBit k) x.toNat:=fun l hl=>by
  refine List.filter_congr fun x hx=> ?_
  simp only
  rw [jW (hm _),show ((x.toNat:Nat):Int)=x by have:=hl x hx;omega]
 refine Eq.symm ((e _ (fun x hx=>by obtain ⟨k,rfl,_,_⟩:=jy hx;omega)).trans ((qeU _ (fun k=> !(j5 (gs.getD (sm.getD i 0).toNat default).mem).testBit k) _).trans ?_))
 refine kD fun k _=> ?_
 rw [Nat.testBit_or]
 cases all.testBit k<;>cases (qeV (usM gs sm) bits i).testBit k<;>cases (j5 (gs.getD (sm.getD i 0).toNat default).mem).testBit k<;>rfl
theorem qkG {sm:List Int} {bits i:Nat} (hb:bits.testBit i=false):qc7 sm bits (i+1)=qc7 sm bits i:=by
 unfold qc7
 rw [zC,hb,if_neg (by simp),List.append_nil]
theorem qkH {sm:List Int} {bits i:Nat} (hb:bits.testBit i=true):qc7 sm bits (i+1)=qc7 sm bits i++ [sm.getD i 0]:=by
 unfold qc7
 rw [zC,hb,if_pos rfl,List.map_append]
 rfl
theorem qoa (sm:List Int) (bits i:Nat):(qc7 sm bits i).length≤i:=by
 unfold qc7
 rw [List.length_map]
 exact qF _ _
theorem qos (gs:List Gr) (sm:List Int) (bits all i:Nat):(qes gs sm bits all i).length≤64:=qF _ _
theorem qrV {gs:List Gr} {sm:List Int} {bits all:Nat} (hm: ∀i,inB 64 (gs.getD i default).mem) (hb:bits<2^sm.length) (hs:sm.length≤64) (ha:all<2^64):
  jD gs all sm bits=qc7 sm bits sm.length++(qes gs sm bits all sm.length).map fun s=>(gs.length:Int)+s:=by
 unfold jD qc7 qes
 have e1:qP bits.testBit 64=qP bits.testBit sm.length:=qf4 64 hs fun k h1 h2=>by
  cases e:bits.testBit k with
  |false=>rfl
  |true=>have:=qc8 hb e;omega
 have e2:qP (anN all (chN (usM gs sm) bits)).testBit 64=qP (fun k=>all.testBit k&& !(qeV (usM gs sm) bits sm.length).testBit k) 64:=by
  refine kD fun k _=> ?_
  have hc:chN (usM gs sm) bits=qeV (usM gs sm) bits sm.length:=by unfold chN;rw [qfs]
  rw [←hc]
  exact qeu ha (qpr (qpX hm sm) bits) k
 rw [e1,e2]
theorem qjB {L:List Int} {p:Int→Bool} {j:Nat} (hj:j<L.length):(L.take (j+1)).filter p=(L.take j).filter p++if p (L.getD j 0)=true then [L.getD j 0] else []:=by
 rw [zu hj,List.filter_append,List.filter_cons]
 split<;>rfl
theorem qz4 (gs:List Gr) (sm:List Int) (bits all:Nat) (h:List AObj) (hg:gs.length≤1000000) (hS: ∀x∈sm,∃k:Nat,x=(k:Int)∧k<gs.length) (hsl:sm.length≤16) (hb:bits<2^sm.length)
  (hm: ∀i,inB 64 (gs.getD i default).mem) (hml: ∀i,(gs.getD i default).mem.length≤1000000000) (ha:all<2^64):
  qm Tryz.prog 108 [qv gs,ql sm,.int .i64 ((bits:Nat):Int),ql (qP all.testBit 64)] h (ql (jD gs all sm bits)) h:=by
 have hp16:2^sm.length≤2^16:=Nat.pow_le_pow_right (by omega) hsl
 rw [qrV hm hb (by omega) ha,←qla gs sm bits all]
 have z1: ∀g,valL g .len [ql sm]= .int .i64 sm.length:=fun _=>rfl
 have z2: ∀g,okL g .len [ql sm]=True:=fun _=>eq_true trivial
 have zg1: ∀g,valL g .len [qv gs]= .int .i64 gs.length:=fun _=>rfl
 have zg2: ∀g,okL g .len [qv gs]=True:=fun _=>eq_true trivial
 have zv: ∀X:List Int,ql X= .sl X.length fun i=> [.int .i64 (X.getD i 0)]:=fun _=>rfl
 refine acO qug ?_
 simp (disch:=omega) only [qti,List.replicate,go_sem]
 repeat' first
  |((first|apply qc|apply qb);exact rvk;simp only [go_sem];first|exact VLe.refl _|apply qd|apply qa|apply qe|skip)
  |with_reducible first|refine And.intro ?_ ?_|intro _
 all_goals try exact clz
 have e0:za [AV.int .i64 0] 0=qn (qc7 sm bits 0):=rfl
 rw [e0]
 refine qo (T:=fun s:Nat×Nat×AObj×AObj×AObj=>qI 81 [(0,qv gs),(1,ql sm),(2,.int .i64 ((bits:Nat):Int)),(9,.osl (h.length+1) s.2.1 1 0 (qc7 sm bits s.1).length),(10,ql (qes gs sm bits all s.1)),(11,.int .i64 s.1)])
  (H:=fun s=>h++ [.emp 1,.mem s.2.1 3 (qn (qc7 sm bits s.1)),s.2.2.1,.emp 0,s.2.2.2.1,s.2.2.2.2,.emp 0,.emp 0,.emp 0])
  (inv:=fun s=>s.1≤sm.length∧qD [s.2.2.1] 0=true∧qD [s.2.2.2.1] 0=true∧qD [s.2.2.2.2] 0=true) (m:=fun s=>sm.length-s.1) (0,1,.emp 0,.emp 0,.emp 0) ⟨Nat.zero_le _,rfl,rfl,rfl⟩ (Wk.temps ?_) ?_
 ·(simp only [List.replicate,qc7,qP,List.range_zero,List.filter_nil,List.length_nil,List.map_nil,go_sem,qj,qh,qg,qi];try (repeat' first|(with_reducible refine And.intro ?_ ?_)|(apply qd;omega)|(apply qa;rfl)|exact VLe.refl _))
 rintro ⟨i,v,O2,O4,O5⟩ ⟨i1,i2,i4,i5⟩ K hK
 simp only at i1 i2 i4 i5 hK
 have i2': ∀m,qD (O2::m) 0=true:=fun _=>i2
 have i4': ∀m,qD (O4::m) 0=true:=fun _=>i4
 have i5': ∀m,qD (O5::m) 0=true:=fun _=>i5
 have hol:=qoa sm bits i
 have hrl:=qos gs sm bits all i
 by_cases hi:i<sm.length
 ·have k1:((i:Int)<sm.length)=True:=eq_true (by omega)
  have k2:(0≤(i:Int))=True:=eq_true (by omega)
  have e1:=qqh (a:=bits) (n:=i) (by omega) (by omega)
  cases hbit:bits.testBit i with
  |false=>
   rw [hbit,if_neg (by simp)]at e1
   simp (disch:=omega) only [List.replicate,z1,z2,k1,k2,e1,go_sem]
   repeat' first
    |((first|apply qc|apply qb);exact rvk;simp only [go_sem];first|exact VLe.refl _|apply qd|apply qa|apply qe|skip)
    |with_reducible first|refine And.intro ?_ ?_|intro _
   all_goals try exact clz
   refine hK _ _ (i+1,v,O2,O4,O5) ⟨hi,i2,i4,i5⟩ (by simp only;omega) ?_
   simp only [qk8 hbit,qkG hbit]
   refine Wk.temps ?_
   (simp only [List.replicate,go_sem,qj,qh,qg,qi];try (repeat' first|(with_reducible refine And.intro ?_ ?_)|(apply qd;omega)|(apply qa;rfl)|exact VLe.refl _))
  |true=>
   rw [hbit,if_pos rfl]at e1
   have hmS:sm.getD i 0∈sm:=by rw [gdqA,q9 hi];exact List.getElem_mem hi
   obtain ⟨y,hy,hyl⟩:=hS _ hmS
   have ho:=qkH (sm:=sm) hbit
   have hr:=qk9 (gs:=gs) (all:=all) hbit hi hm
   rw [hy]at ho hr
   rw [Int.toNat_natCast]at hr
   have q2:((y:Int)<gs.length)=True:=eq_true (by omega)
   have q3:(0≤(y:Int))=True:=eq_true (by omega)
   have c56:=fun x h=>qrl (gs.getD y default).mem x h (hml y)
   obtain ⟨L,hL⟩: ∃L,L=qc7 sm bits i:=⟨_,rfl⟩
   obtain ⟨r,hrr⟩: ∃r,r=qes gs sm bits all i:=⟨_,rfl⟩
   rw [←hL]at ho hol
   rw [←hrr]at hr hrl
   have eL:=hL.symm
   have er:=hrr.symm
   have eC:=qt L
   have eTk:List.take L.length (qn L)=qn L:=List.take_of_length_le (by omega)
   obtain ⟨gr,hgr⟩: ∃gr,gr=gs.getD y default:=⟨_,rfl⟩
   have egr:=hgr.symm
   simp only [egr]at c56
   rw [egr]at hr
   simp (disch:=omega) only [List.replicate,zv,k1,k2,e1,hy,i2',i4',eL,er,Nat.mul_one,go_sem]
   repeat' first
    |((first|apply qc|apply qb);exact rvk;simp only [go_sem];first|exact VLe.refl _|apply qd|apply qa|apply qe|skip)
    |with_reducible first|refine And.intro ?_ ?_|intro _
   all_goals try exact clz
   have eA:qn L++ [AV.int .i64 ((y:Nat):Int)]=qn (qc7 sm bits (i+1)):=by rw [ho,qG];rfl
   try rw [eTk]
   rw [eA]
   obtain ⟨pr,hpr⟩: ∃pr:Int→Bool,pr=fun x=> !decide (x∈gr.mem):=⟨_,rfl⟩
   rw [←hpr]at hr
   have e00:za [AV.int .i64 0] 0=qn ((r.take 0).filter pr):=rfl
   rw [e00]
   have hLo:(qc7 sm bits (i+1)).length=L.length+1:=by rw [ho,List.length_append];rfl
   refine qo (T:=fun s:Nat×Nat×AObj=>qI 81 [(0,qv gs),(1,ql sm),(2,.int .i64 ((bits:Nat):Int)),(9,.osl (h.length+1) (v+1) 1 0 (L.length+1)),(10,ql r),(11,.int .i64 i),(12,.osl (h.length+4) s.2.1 1 0 ((r.take s.1).filter pr).length),(13,.int .i64 s.1)])
    (H:=fun s=>h++ [.emp 1,.mem (v+1) 3 (qn (qc7 sm bits (i+1))),.mem (qs (some O2)+1) 3 [.int .i64 ((y:Nat):Int)],.emp 0,.mem s.2.1 3 (qn ((r.take s.1).filter pr)),s.2.2,.emp 0,.emp 0,.emp 0])
    (inv:=fun s=>s.1≤r.length∧qD [s.2.2] 0=true) (m:=fun s=>r.length-s.1) (0,qs (some O4)+1,O5) ⟨Nat.zero_le _,i5⟩ (Wk.temps ?_) ?_
   ·(simp only [List.replicate,zv,List.take_zero,List.filter_nil,List.length_nil,go_sem,qj,qh,qg,qi];try (repeat' first|(with_reducible refine And.intro ?_ ?_)|(apply qd;omega)|(apply qa;rfl)|exact VLe.refl _))
   rintro ⟨j,u,O5⟩ ⟨j1,j2⟩ KA hKA
   simp only at j1 j2 hKA
   have j2': ∀m,qD (O5::m) 0=true:=fun _=>j2
   have hfl:((r.take j).filter pr).length≤j:=Nat.le_trans (List.length_filter_le _ _) (by rw [List.length_take];omega)
   by_cases hj:j<r.length
   ·have q5:((j:Int)<r.length)=True:=eq_true (by omega)
    have hst:=qjB (p:=pr) hj
    obtain ⟨w,hw⟩: ∃w,w=r.getD j 0:=⟨_,rfl⟩
    have ew:=hw.symm
    rw [ew]at hst
    obtain ⟨FL,hFL⟩: ∃FL,FL=(r.take j).filter pr:=⟨_,rfl⟩
    rw [←hFL]at hst hfl
    have eFL:=hFL.symm
    have eC2:=qt FL
    have eTk2:List.take FL.length (qn FL)=qn FL:=List.take_of_length_le (by omega)
    have hpw:pr w= !decide (w∈gr.mem):=by rw [hpr]
    by_cases hwm:w∈gr.mem
    ·have hpw:pr w=false:=by rw [hpw,decide_eq_true hwm];rfl
     rw [hpw,if_neg (by simp),List.append_nil]at hst
     have c56w:=fun h=>c56 w h
     simp only [decide_eq_true hwm]at c56w
     simp (disch:=omega) only [List.replicate,zv,qv,grC,q2,q3,q5,k1,k2,hy,ew,egr,Int.toNat_natCast,go_sem]
     repeat' first
      |((first|refine cA (c56w _) ?_ ?_|refine cG (fun e=>c56w _) ?_ ?_|refine cU (fun _=>c56w _) ?_ ?_);(next=>exact flk);simp (disch:=omega) only [zv,qv,grC,q2,q3,q5,k1,k2,hy,ew,egr,Int.toNat_natCast,go_sem])
      |((first|apply qc|apply qb);exact rvk;simp only [go_sem];first|exact VLe.refl _|apply qd|apply qa|apply qe|skip)
      |with_reducible first|refine And.intro ?_ ?_|intro _
     all_goals try exact clz
     refine hKA _ _ (j+1,u,O5) ⟨hj,j2⟩ (by simp only;omega) ?_
     simp only [hst,zv,qv,grC,eFL]
     refine Wk.temps ?_
     (simp only [List.replicate,go_sem,qj,qh,qg,qi];try (repeat' first|(with_reducible refine And.intro ?_ ?_)|(apply qd;omega)|(apply qa;rfl)|exact VLe.refl _))
    ·have hpw:pr w=true:=by rw [hpw,decide_eq_false hwm];rfl
     rw [hpw,if_pos rfl]at hst
     have c56w:=fun h=>c56 w h
     simp only [decide_eq_false hwm]at c56w
     simp (disch:=omega) only [List.replicate,zv,qv,grC,q2,q3,q5,k1,k2,hy,ew,egr,j2',eFL,Nat.mul_one,Int.toNat_natCast,go_sem]
     repeat' first
      |((first|refine cA (c56w _) ?_ ?_|refine cG (fun e=>c56w _) ?_ ?_|refine cU (fun _=>c56w _) ?_ ?_);(next=>exact flk);simp (disch:=omega) only [zv,qv,grC,q2,q3,q5,k1,k2,hy,ew,egr,j2',eFL,eC2,eTk2,Nat.mul_one,Int.toNat_natCast,go_sem])
      |((first|apply qc|apply qb);exact rvk;simp only [go_sem];first|exact VLe.refl _|apply qd|apply qa|apply qe|skip)
      |with_reducible first|refine And.intro ?_ ?_|intro _
     all_goals try exact clz
     have eA2:qn FL++ [AV.int .i64 w]=qn ((r.take (j+1)).filter pr):=by rw [hst,qG];rfl
     try rw [eTk2]
     rw [eA2]
     refine hKA _ _ (j+1,u+1,.mem (qs (some O5)+1) 3 [.int .i64 w]) ⟨hj,rfl⟩ (by simp only;omega) ?_
     simp only [hst,List.length_append,List.length_cons,List.length_nil,zv,qv,grC]
     refine Wk.temps ?_
     (simp only [List.replicate,go_sem,qj,qh,qg,qi];try (repeat' first|(with_reducible refine And.intro ?_ ?_)|(apply qd;omega)|(apply qa;rfl)|exact VLe.refl _))
   ·obtain rfl:j=r.length:=by omega
    have q5:((r.length:Int)<r.length)=False:=eq_false (by omega)
    have eall:(r.take r.length).filter pr=qes gs sm bits all (i+1):=by rw [List.take_length];exact hr.symm
    rw [eall]
    have zr1: ∀g,valL g .len [ql r]= .int .i64 r.length:=fun _=>rfl
    have zr2: ∀g,okL g .len [ql r]=True:=fun _=>eq_true trivial
    simp (disch:=omega) only [List.replicate,q5,zr1,zr2,go_sem]
    repeat' first
     |((first|apply qc|apply qb);exact rvk;simp only [go_sem];first|exact VLe.refl _|apply qd|apply qa|apply qe|skip)
     |with_reducible first|refine And.intro ?_ ?_|intro _
    all_goals try exact clz
    refine hK _ _ (i+1,v+1,.mem (qs (some O2)+1) 3 [.int .i64 ((y:Nat):Int)],.emp (u+1),O5) ⟨hi,rfl,rfl,j2⟩ (by simp only;omega) (Wk.trans (Wk.freeze [h.length+4] (by simp only [zN,go_sem])) ?_)
    simp only [kK,List.map,go_sem,hLo]
    refine Wk.temps ?_
    (simp only [List.replicate,go_sem,qj,qh,qg,qi];try (repeat' first|(with_reducible refine And.intro ?_ ?_)|(apply qd;omega)|(apply qa;rfl)|exact VLe.refl _))
    ·rw [if_neg (by simp)];exact VLe.refl _
    ·rw [if_pos (by simp),if_pos (by simp),if_pos (by rw [qt];exact Nat.le_refl _)]
     exact zr _ (fun _=>rfl) rfl
 ·obtain rfl:i=sm.length:=by omega
  have k1:((sm.length:Int)<sm.length)=False:=eq_false (by omega)
  obtain ⟨L,hL⟩: ∃L,L=qc7 sm bits sm.length:=⟨_,rfl⟩
  have hrb: ∀x∈qes gs sm bits all sm.length,0≤x∧x<64:=fun x hx=>by
   obtain ⟨k,rfl,h1,_⟩:=jy hx
   omega
  obtain ⟨r,hrr⟩: ∃r,r=qes gs sm bits all sm.length:=⟨_,rfl⟩
  rw [←hL]at hol
  rw [←hrr]at hrl hrb
  have eL:=hL.symm
  have er:=hrr.symm
  rw [eL,er]
  have zr1: ∀g,valL g .len [ql r]= .int .i64 r.length:=fun _=>rfl
  have zr2: ∀g,okL g .len [ql r]=True:=fun _=>eq_true trivial
  obtain ⟨G,hG⟩: ∃G:Nat→List Int,G=fun k=>L++(r.take k).map fun s=>(gs.length:Int)+s:=⟨_,rfl⟩
  have g0:G 0=L:=by rw [hG];exact List.append_nil _
  have gn:G r.length=L++r.map fun s=>(gs.length:Int)+s:=by rw [hG];simp only;rw [List.take_length]
  have gl: ∀k,k≤r.length→(G k).length=L.length+k:=fun k hk=>by
   rw [hG]
   simp only
   rw [List.length_append,List.length_map,List.length_take,Nat.min_eq_left hk]
  have gs1: ∀k,k<r.length→G (k+1)=G k++ [(gs.length:Int)+r.getD k 0]:=fun k hk=>by
   rw [hG]
   simp only
   rw [zu hk,List.map_append,List.append_assoc]
   rfl
  rw [←gn]
  simp (disch:=omega) only [List.replicate,z1,z2,k1,go_sem]
  repeat' first
   |((first|apply qc|apply qb);exact rvk;simp only [go_sem];first|exact VLe.refl _|apply qd|apply qa|apply qe|skip)
   |with_reducible first|refine And.intro ?_ ?_|intro _
  all_goals try exact clz
  rw [←g0]
  refine qo (T:=fun s:Nat×Nat×AObj=>qI 81 [(0,qv gs),(9,.osl (h.length+1) s.2.1 1 0 (G s.1).length),(10,ql r),(14,.int .i64 s.1)])
   (H:=fun s=>h++ [.emp 1,.mem s.2.1 3 (qn (G s.1)),O2,.emp 0,O4,O5,.emp 0,s.2.2,.emp 0])
   (inv:=fun s=>s.1≤r.length∧qD [s.2.2] 0=true) (m:=fun s=>r.length-s.1) (0,v,.emp 0) ⟨Nat.zero_le _,rfl⟩ (Wk.temps ?_) ?_
  ·(simp only [List.replicate,go_sem,qj,qh,qg,qi];try (repeat' first|(with_reducible refine And.intro ?_ ?_)|(apply qd;omega)|(apply qa;rfl)|exact VLe.refl _))
  rintro ⟨k,u,O7⟩ ⟨j1,j2⟩ KA hKA
  simp only at j1 j2 hKA
  have j2': ∀m,qD (O7::m) 0=true:=fun _=>j2
  have hgl:=gl k j1
  by_cases hk:k<r.length
  ·have q5:((k:Int)<r.length)=True:=eq_true (by omega)
   have hst:=gs1 k hk
   have hmr:r.getD k 0∈r:=by rw [gdqA,q9 hk];exact List.getElem_mem hk
   obtain ⟨w0,w1⟩:=hrb _ hmr
   obtain ⟨w,hw⟩: ∃w,w=r.getD k 0:=⟨_,rfl⟩
   have ew:=hw.symm
   rw [ew]at hst w0 w1
   have q6:IntKind.i64.wrap ((gs.length:Int)+w)=(gs.length:Int)+w:=qdp (by omega) (by omega)
   obtain ⟨FL,hFL⟩: ∃FL,FL=G k:=⟨_,rfl⟩
   rw [←hFL]at hst hgl
   have eFL:=hFL.symm
   have eC2:=qt FL
   have eTk2:List.take FL.length (qn FL)=qn FL:=List.take_of_length_le (by omega)
   rw [eFL]
   simp (disch:=omega) only [List.replicate,zv,zg1,zg2,q5,ew,q6,j2',Nat.mul_one,go_sem]
   repeat' first
    |((first|apply qc|apply qb);exact rvk;simp only [go_sem];first|exact VLe.refl _|apply qd|apply qa|apply qe|skip)
    |with_reducible first|refine And.intro ?_ ?_|intro _
   all_goals try exact clz
   have eA2:qn FL++ [AV.int .i64 ((gs.length:Int)+w)]=qn (G (k+1)):=by rw [hst,qG];rfl
   try rw [eTk2]
   rw [eA2]
   refine hKA _ _ (k+1,u+1,.mem (qs (some O7)+1) 3 [.int .i64 ((gs.length:Int)+w)]) ⟨hk,rfl⟩ (by simp only;omega) ?_
   simp only [hst,List.length_append,List.length_cons,List.length_nil,zv]
   refine Wk.temps ?_
   (simp only [List.replicate,go_sem,qj,qh,qg,qi];try (repeat' first|(with_reducible refine And.intro ?_ ?_)|(apply qd;omega)|(apply qa;rfl)|exact VLe.refl _))
  ·obtain rfl:k=r.length:=by omega
   have q5:((r.length:Int)<r.length)=False:=eq_false (by omega)
   have eC2:=qt (G r.length)
   simp (disch:=omega) only [List.replicate,q5,zr1,zr2,go_sem]
   repeat' first
    |((first|apply qc|apply qb);exact rvk;simp only [go_sem];first|exact VLe.refl _|apply qd|apply qa|apply qe|skip)
    |with_reducible first|refine And.intro ?_ ?_|intro _
   all_goals try exact clz
   rw [if_pos (by omega)]
   exact zr _ (fun _=>rfl) rfl
end RC
end
section
open Go Go.Proofs AF HY LN
namespace RC
set_option maxHeartbeats 16000000
theorem qz9 (names:List Str) (gs:List Gr) (set:List Int) (h:List AObj) (hz:Szs names gs) (hs:set.length≤1000000000) (h8:qbs names gs set=0→names.length≤8∧gs.length≤8):
  qm Tryz.prog 66 [strs names,qv gs,ql set] h (.tup [strs (shR names gs set),.int .i64 (qbs names gs set)]) h:=by
 have c107:=fun h=>qzQ names gs set h hz hs (fun e=>by have:=h8 e;omega)
 unfold shR
 by_cases g:qbs names gs set=0
 case neg=>
  have k0:(qbs names gs set=0)=False:=eq_false g
  rw [if_neg g]
  rw [if_neg g]at c107
  refine acO qu2 ?_
  simp (disch:=omega) only [qw1,List.replicate,k0,go_sem]
  repeat' first
   |((first|refine cA (c107 _) ?_ ?_|refine cG (fun e=>c107 _) ?_ ?_|refine cU (fun _=>c107 _) ?_ ?_);(next=>exact flk);simp (disch:=omega) only [k0,go_sem])
   |((first|apply qc|apply qb);exact rvk;simp only [go_sem];first|exact VLe.refl _|apply qd|apply qa|apply qe|skip)
   |with_reducible first|refine And.intro ?_ ?_|intro _
  all_goals try exact clz
  exact qK ⟨zQ,VLe.refl _,trivial⟩
 rw [if_pos g,g]
 simp only [if_pos g]at c107
 simp only [g]at c107
 obtain ⟨n8,g8⟩:=h8 g
 have hse:sgE names gs=0∧kL names.length set=0:=by
  unfold qbs at g
  split at g
  ·rename_i h;exact ⟨h,g⟩
  ·cases g
 have hin:=(jZ hse.2).1
 have hmi:=qeP hse.1
 have hml:=hz.gm
 have hgl:=hz.g
 have hall:j5 set<2^8:=Nat.lt_of_lt_of_le (qeW (by omega) hin) (Nat.pow_le_pow_right (by omega) n8)
 have hset:=qow (by omega) hse.2
 obtain ⟨all,hA⟩: ∃all,all=j5 set:=⟨_,rfl⟩
 have hpin:=fun {c} hc {p}=>qpO (names:=names) (gs:=gs) (set:=set) (all:=all) hin (by omega) hA (c:=c) hc (p:=p)
 rw [←hA]at hall hset
 simp only [←hA]at c107
 have hLin:=fun {x}=> @qfB gs all x
 have hLl:(qa3 gs all).length≤8:=by have:=qF (qgq gs all) gs.length;unfold qa3;omega
 have hbA:qwA gs all=bst gs all (qa3 gs all) (2^(qa3 gs all).length-1):=rfl
 rw [←hA,hbA]
 have hbs:=qiW gs all (qa3 gs all)
 obtain ⟨L,hL⟩: ∃L,L=qa3 gs all:=⟨_,rfl⟩
 simp only [←hL]at c107 hLin hpin
 rw [←hL]at hLl
 rw [←hL]at hbs ⊢
 have hpw8:2^L.length≤2^8:=Nat.pow_le_pow_right (by omega) hLl
 have es:qs4 .i64 1 (L.length:Int)=((2^L.length:Nat):Int):=qsh (by omega)
 have c108:=fun bits (hb:bits<2^L.length) h=>qz4 gs L bits all h (by omega) (fun x hx=>hLin hx) (by omega) hb hmi hml (by omega)
 rw [←hset]at c108
 have hN1:1≤2^L.length:=Nat.one_le_two_pow
 obtain ⟨M,hM⟩: ∃M,M=2^L.length:=⟨_,rfl⟩
 rw [←hM]at hpw8 es hN1 ⊢
 simp only [←hM]at c108 hpin
 have hpl: ∀c,(jD gs all L c).length≤200:=fun c=>by
  rw [qbH]
  have h1:=qF c.testBit 64
  have h2:=qF (anN all (chN (usM gs L) c)).testBit 64
  unfold qkY
  omega
 have hbl: ∀c,(bst gs all L c).length≤200:=fun c=>by
  obtain ⟨k,_,e⟩:=hbs c
  rw [e]
  exact hpl k
 have z1: ∀g,valL g .len [ql L]= .int .i64 L.length:=fun _=>rfl
 have z2: ∀g,okL g .len [ql L]=True:=fun _=>eq_true trivial
 have c108z:=fun h=>c108 0 (by omega) h
 simp only [show (((0:Nat):Int))=0 from rfl]at c108z
 refine acO qu2 ?_
 simp (disch:=omega) only [qw1,List.replicate,go_sem]
 repeat' first
  |((first|refine cA (c107 _) ?_ ?_|refine cG (fun e=>c107 _) ?_ ?_|refine cA (c108z _) ?_ ?_|refine cG (fun e=>c108z _) ?_ ?_|refine cU (fun _=>c107 _) ?_ ?_|refine cU (fun _=>c108z _) ?_ ?_);(next=>exact flk);simp (disch:=omega) only [go_sem])
  |((first|apply qc|apply qb);exact rvk;simp only [go_sem];first|exact VLe.refl _|apply qd|apply qa|apply qe|skip)
  |with_reducible first|refine And.intro ?_ ?_|intro _
 all_goals try exact clz
 refine qo (T:=fun b:Nat=>qI 84 [(0,strs names),(1,qv gs),(2,ql set),(8,ql L),(10,ql (bst gs all L (b-1))),(11,.int .i64 b)])
  (H:=fun _=>h++ [.emp 1,.emp 0,.emp 0,.emp 0,.emp 0,.emp 0])
  (inv:=fun b=>1≤b∧b≤M) (m:=fun b=>M-b) 1 ⟨Nat.le_refl _,hN1⟩ (Wk.temps ?_) ?_
 ·(simp only [List.replicate,bst,go_sem,qj,qh,qg,qi];try (repeat' first|(with_reducible refine And.intro ?_ ?_)|(apply qd;omega)|(apply qa;rfl)|exact VLe.refl _))
 rintro b ⟨i1,i2⟩ K hK
 obtain ⟨c,rfl⟩: ∃c,b=c+1:=⟨b-1,by omega⟩
 rw [Nat.add_sub_cancel]
 by_cases hi:c+1<M
 ·have k1:(((c+1:Nat):Int)<M)=True:=eq_true (by omega)
  have hst:bst gs all L (c+1)=if qib (jD gs all L (c+1)) (bst gs all L c)=true then jD gs all L (c+1) else bst gs all L c:=rfl
  have c108c:=fun h=>c108 (c+1) hi h
  have c109:=fun h=>qzs (jD gs all L (c+1)) (bst gs all L c) h (Nat.le_trans (hpl _) (by omega)) (Nat.le_trans (hbl _) (by omega))
  obtain ⟨b,hb⟩: ∃b,b=c+1:=⟨_,rfl⟩
  simp only [←hb]at c108c c109 hst k1
  rw [←hb]
  cases hbt:qib (jD gs all L b) (bst gs all L c)with
  |true=>
   rw [hbt,if_pos rfl]at hst
   rw [hbt]at c109
   simp (disch:=omega) only [List.replicate,z1,z2,es,k1,go_sem]
   repeat' first
    |((first|refine cA (c108c _) ?_ ?_|refine cG (fun e=>c108c _) ?_ ?_|refine cA (c109 _) ?_ ?_|refine cG (fun e=>c109 _) ?_ ?_|refine cU (fun _=>c108c _) ?_ ?_|refine cU (fun _=>c109 _) ?_ ?_);(next=>exact flk);simp (disch:=omega) only [z1,z2,es,k1,go_sem])
    |((first|apply qc|apply qb);exact rvk;simp only [go_sem];first|exact VLe.refl _|apply qd|apply qa|apply qe|skip)
    |with_reducible first|refine And.intro ?_ ?_|intro _
   all_goals try exact clz
   refine hK _ _ (b+1) ⟨by omega,by omega⟩ (by omega) ?_
   rw [Nat.add_sub_cancel,hst]
   refine Wk.temps ?_
   (simp only [List.replicate,go_sem,qj,qh,qg,qi];try (repeat' first|(with_reducible refine And.intro ?_ ?_)|(apply qd;omega)|(apply qa;rfl)|exact VLe.refl _))
  |false=>
   rw [hbt,if_neg (by simp)]at hst
   rw [hbt]at c109
   simp (disch:=omega) only [List.replicate,z1,z2,es,k1,go_sem]
   repeat' first
    |((first|refine cA (c108c _) ?_ ?_|refine cG (fun e=>c108c _) ?_ ?_|refine cA (c109 _) ?_ ?_|refine cG (fun e=>c109 _) ?_ ?_|refine cU (fun _=>c108c _) ?_ ?_|refine cU (fun _=>c109 _) ?_ ?_);(next=>exact flk);simp (disch:=omega) only [z1,z2,es,k1,go_sem])
    |((first|apply qc|apply qb);exact rvk;simp only [go_sem];first|exact VLe.refl _|apply qd|apply qa|apply qe|skip)
    |with_reducible first|refine And.intro ?_ ?_|intro _
   all_goals try exact clz
   refine hK _ _ (b+1) ⟨by omega,by omega⟩ (by omega) ?_
   rw [Nat.add_sub_cancel,hst]
   refine Wk.temps ?_
   (simp only [List.replicate,go_sem,qj,qh,qg,qi];try (repeat' first|(with_reducible refine And.intro ?_ ?_)|(apply qd;omega)|(apply qa;rfl)|exact VLe.refl _))
 ·obtain rfl:M=c+1:=by omega
  have k1:(((c+1:Nat):Int)<((c+1:Nat):Int))=False:=eq_false (by omega)
  rw [Nat.add_sub_cancel]
  obtain ⟨kb,kb1,kb2⟩:=hbs c
  have hBin: ∀p∈bst gs all L c,0≤p∧p<gs.length+names.length:=fun p hp=>by
   rw [kb2]at hp
   exact hpin (by omega) hp
  have hBl:=hbl c
  obtain ⟨B,hB⟩: ∃B,B=bst gs all L c:=⟨_,rfl⟩
  rw [←hB]at hBin hBl ⊢
  have zb1: ∀g,valL g .len [ql B]= .int .i64 B.length:=fun _=>rfl
  have zb2: ∀g,okL g .len [ql B]=True:=fun _=>eq_true trivial
  simp (disch:=omega) only [List.replicate,z1,z2,es,k1,go_sem]
  repeat' first
   |((first|apply qc|apply qb);exact rvk;simp only [go_sem];first|exact VLe.refl _|apply qd|apply qa|apply qe|skip)
   |with_reducible first|refine And.intro ?_ ?_|intro _
  all_goals try exact clz
  have e0:za [AV.str []] 0=zR ((B.map (j9 names gs)).take 0):=rfl
  rw [e0]
  refine qo (T:=fun s:Nat×Nat×AObj×AObj=>qI 84 [(0,strs names),(1,qv gs),(10,ql B),(13,.osl (h.length+1) s.2.1 1 0 s.1),(14,.int .i64 s.1)])
   (H:=fun s=>h++ [.emp 1,.mem s.2.1 9 (zR ((B.map (j9 names gs)).take s.1)),s.2.2.1,.emp 0,s.2.2.2,.emp 0])
   (inv:=fun s=>s.1≤B.length∧qD [s.2.2.1] 0=true∧qD [s.2.2.2] 0=true) (m:=fun s=>B.length-s.1) (0,1,.emp 0,.emp 0) ⟨Nat.zero_le _,rfl,rfl⟩ (Wk.temps ?_) ?_
  ·(simp only [List.replicate,go_sem,qj,qh,qg,qi];try (repeat' first|(with_reducible refine And.intro ?_ ?_)|(apply qd;omega)|(apply qa;rfl)|exact VLe.refl _))
  rintro ⟨i,u,O15,O17⟩ ⟨i1,i2,i3⟩ K hK
  simp only at i1 i2 i3 hK
  have i2': ∀m,qD (O15::m) 0=true:=fun _=>i2
  have i3': ∀m,qD (O17::m) 0=true:=fun _=>i3
  have eCl:i≤B.length→(zR ((B.map (j9 names gs)).take i)).length=i:=fun hi=>by rw [zd,List.length_take,List.length_map];omega
  have zv: ∀X:List Int,ql X= .sl X.length fun i=> [.int .i64 (X.getD i 0)]:=fun _=>rfl
  by_cases hi:i<B.length
  ·have q1:((i:Int)<B.length)=True:=eq_true (by omega)
   have hm:B.getD i 0∈B:=by rw [gdqA,q9 hi];exact List.getElem_mem hi
   obtain ⟨p0,p1⟩:=hBin _ hm
   have hst:(B.map (j9 names gs)).take (i+1)=(B.map (j9 names gs)).take i++ [j9 names gs (B.getD i 0)]:=by
    rw [←List.map_take,←List.map_take,zu hi,List.map_append]
    rfl
   have eTk:List.take i (zR ((B.map (j9 names gs)).take i))=zR ((B.map (j9 names gs)).take i):=List.take_of_length_le (by rw [eCl (by omega)];exact Nat.le_refl _)
   have eC:=eCl (by omega)
   have zg1: ∀g,valL g .len [qv gs]= .int .i64 gs.length:=fun _=>rfl
   have zg2: ∀g,okL g .len [qv gs]=True:=fun _=>eq_true trivial
   obtain ⟨y,hy⟩: ∃y:Nat,B.getD i 0=(y:Int):=⟨(B.getD i 0).toNat,by omega⟩
   rw [hy]at hst p1
   by_cases hg:y<gs.length
   ·have q2:((y:Int)<gs.length)=True:=eq_true (by omega)
    have q3:(0≤(y:Int))=True:=eq_true (by omega)
    have hsg:j9 names gs (y:Int)=(gs.getD y default).name:=by unfold j9;rw [if_pos (by omega),Int.toNat_natCast]
    rw [hsg]at hst
    simp (disch:=omega) only [List.replicate,zv,qv,grC,q1,q2,q3,hy,i2',Nat.mul_one,Int.toNat_natCast,go_sem]
    repeat' first
     |((first|apply qc|apply qb);exact rvk;simp only [go_sem];first|exact VLe.refl _|apply qd|apply qa|apply qe|skip)
     |with_reducible first|refine And.intro ?_ ?_|intro _
    all_goals try exact clz
    have eA:zR ((B.map (j9 names gs)).take i)++ [AV.str (gs.getD y default).name]=zR ((B.map (j9 names gs)).take (i+1)):=by rw [hst,kH];rfl
    try rw [eTk]
    rw [eA]
    refine hK _ _ (i+1,u+1,.mem (qs (some O15)+1) 9 [.str (gs.getD y default).name],O17) ⟨hi,rfl,i3⟩ (by simp only;omega) ?_
    simp only [zv,qv,grC]
    refine Wk.temps ?_
    (simp only [List.replicate,go_sem,qj,qh,qg,qi];try (repeat' first|(with_reducible refine And.intro ?_ ?_)|(apply qd;omega)|(apply qa;rfl)|exact VLe.refl _))
   ·have q2:((y:Int)<gs.length)=False:=eq_false (by omega)
    obtain ⟨z,hz⟩: ∃z:Nat,(y:Int)-gs.length=(z:Int):=⟨y-gs.length,by omega⟩
    have q3:((z:Int)<names.length)=True:=eq_true (by omega)
    have q4:(0≤(z:Int))=True:=eq_true (by omega)
    have hsg:j9 names gs (y:Int)=names.getD z []:=by unfold j9;rw [if_neg (by omega),hz,Int.toNat_natCast]
    rw [hsg]at hst
    simp (disch:=omega) only [List.replicate,zv,strs,zg1,zg2,q1,q2,q3,q4,hy,hz,i3',Nat.mul_one,Int.toNat_natCast,go_sem]
    repeat' first
     |((first|apply qc|apply qb);exact rvk;simp only [go_sem];first|exact VLe.refl _|apply qd|apply qa|apply qe|skip)
     |with_reducible first|refine And.intro ?_ ?_|intro _
    all_goals try exact clz
    have eA:zR ((B.map (j9 names gs)).take i)++ [AV.str (names.getD z [])]=zR ((B.map (j9 names gs)).take (i+1)):=by rw [hst,kH];rfl
    try rw [eTk]
    rw [eA]
    refine hK _ _ (i+1,u+1,O15,.mem (qs (some O17)+1) 9 [.str (names.getD z [])]) ⟨hi,i2,rfl⟩ (by simp only;omega) ?_
    simp only [zv,strs]
    refine Wk.temps ?_
    (simp only [List.replicate,go_sem,qj,qh,qg,qi];try (repeat' first|(with_reducible refine And.intro ?_ ?_)|(apply qd;omega)|(apply qa;rfl)|exact VLe.refl _))
  ·obtain rfl:i=B.length:=by omega
   have q1:((B.length:Int)<B.length)=False:=eq_false (by omega)
   have eAll:(B.map (j9 names gs)).take B.length=B.map (j9 names gs):=List.take_of_length_le (by simp)
   rw [eAll]
   have eC2:(zR (B.map (j9 names gs))).length=B.length:=by rw [zd,List.length_map]
   simp (disch:=omega) only [List.replicate,q1,zb1,zb2,go_sem]
   repeat' first
    |((first|apply qc|apply qb);exact rvk;simp only [go_sem];first|exact VLe.refl _|apply qd|apply qa|apply qe|skip)
    |with_reducible first|refine And.intro ?_ ?_|intro _
   all_goals try exact clz
   refine qK ⟨?_,VLe.refl _,trivial⟩
   rw [if_pos (by omega)]
   exact qbK _ (fun _=>rfl) (by simp)
end RC
end
section
open Go Go.Proofs AF HY LN
namespace RC
set_option maxHeartbeats 4000000
theorem qbA (names:List Str) (gs:List Gr):zI names gs []= []:=by
 unfold zI
 split
 ·unfold qP
  have: ∀n,(qdu names gs [] ([]:List Str).length).testBit n=false:=fun n=>by
   show (0:Nat).testBit n=false
   exact Nat.zero_testBit n
  rw [show (qdu names gs [] ([]:List Str).length).testBit=fun _=>false from funext this]
  simp
 ·rfl
end RC
end
section
open Go Go.Proofs AF
def qvp:List Nat:= [93,74,79,120,147,148,161,170,63,105,131,64,31,32,57,58,29,30]
def qwY:C:=
 ((C.ops [O1 5 (.box 0 49) 2,ON 6 (.nilo 1 1 3) [],MC 7 (i6 0)]).seq (((C.ops [MV 15 0,MV 16 1,O2 17 (.call 59 true) 15 16,BC 18 .neq 17 (i6 0)]).seq (C.cond (.t 18) ((C.ops
 [ON 6 (.nilo 1 1 3) [],MC 7 (i6 1)]).seq C.ret) C.skip)).seq ((C.ops [⟨some 8,none,.alloc 2 117 [i6 0,i6 0,i6 0,i6 0,i6 0,i6 0,i6 0,i6 0,i6 0,i6 0,i6 0,i6 0,i6 0,i6
 0,i6 0,i6 0,i6 0,i6 0,i6 0,i6 0,i6 0,i6 0,i6 0,i6 0,i6 0,i6 0,i6 0,i6 0,i6 0,i6 0,i6 0,i6 0],[]⟩]).seq (((C.ops [O1 19 (.fldA 5) 5,LD 20 19,O1 21 .len 20,MC
 22 (i6 0)]).seq (C.block 0 ((C.ops [BI 23 .lss 22 21]).seq ((C.cond (.t 23) C.skip (C.exit 0)).seq ((C.block 1 ((C.ops [O2 24 (.idxA 2) 20 22,O1 25 (.load (some 2)) 24,⟨some 10,
 none,.alloc 3 51 [.nl,.nl],[]⟩,ST 2 10 25]).seq ((C.ops [MV 26 0,MV 27 1,O1 28 (.fldA 1) 10,LD 29 28,ON 30 (.call 93 false) [.t 26,.t 27,.t 29,.t 8],MV 11 30]).seq
 ((C.ops [MV 31 11,BC 32 .neq 31 (i6 0)]).seq (C.cond (.t 32) ((C.ops [MV 33 11,ON 6 (.nilo 1 1 3) [],MV 7 33]).seq C.ret) C.skip))))).seq (C.ops [BC 34 .add 22 (i6 1),MV 22
 34])))).loop)).seq (((C.ops [O1 35 (.load (some 32)) 8,O1 36 (.call 94 true) 35]).seq (C.cond (.t 36) ((C.ops [ON 6 (.nilo 1 1 3) [],MC 7 (i6 17)]).seq C.ret) C.skip)).seq
 ((C.ops [ON 12 (.nilo 4 1 3) []]).seq (((C.ops [O1 37 (.load (some 32)) 8,MC 38 (i6 0)]).seq (C.block 2 ((C.ops [BC 39 .lss 38 (i6 32)]).seq ((C.cond (.t 39) C.skip (C.exit
 2)).seq ((C.block 3 ((C.ops [MV 40 38,O2 41 (.aidx 32 1 none) 37 38,MV 13 40,MV 14 41]).seq ((C.ops [MV 42 14,BC 43 .gtr 42 (i6 0)]).seq (C.cond (.t 43) (C.ops [MV 44 12,MV 45
 13,⟨some 46,none,.bslc 5 1 1 3 [i6 0] [(0,1)],[.t 45]⟩,O2 47 (.app 6 1 3 8) 44 46,MV 12 47]) C.skip)))).seq (C.ops [BC 48 .add 38 (i6 1),MV 38 48])))).loop)).seq ((C.ops
 [MV 49 12,MV 6 49,MC 7 (i6 0)]).seq
 C.ret))))))))
theorem quZ:qM Tryz.prog 60 50 7 [RV.tmp 6,RV.tmp 7] qwY:=fi Tryz.f60 [5,6,8,10,12,46,47] qvp [] (by kernel_rfl) (by kernel_rfl) (by kernel_rfl) (by kernel_rfl)
end
