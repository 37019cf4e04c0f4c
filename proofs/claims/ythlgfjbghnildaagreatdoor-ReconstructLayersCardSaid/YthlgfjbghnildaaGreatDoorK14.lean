import Derived.Test.YthlgfjbghnildaaGreatDoorK13
import Derived.Test.YthlgfjbghnildaaGreatDoorK10
import Derived.Test.YthlgfjbghnildaaGreatDoorK1
import Derived.Test.YthlgfjbghnildaaGreatDoorK3
import Derived.Test.YthlgfjbghnildaaGreatDoorK6
import Derived.Test.YthlgfjbghnildaaGreatDoorProg
set_option linter.all false
set_option linter.unusedSimpArgs false
set_option linter.unusedVariables false
set_option linter.unusedSectionVars false
set_option maxRecDepth 100000
section
open Go Go.Proofs AF HY LN
namespace RC
set_option maxHeartbeats 16000000
theorem qAT (names:List Str) (gs:List Gr) (set:List Int) (h:List AObj) (hz:Szs names gs) (hs:set.length≤1000000000) (h8:qgC names gs set=0→names.length≤8∧gs.length≤8):
  qm Tryz.prog 61 [strs names,qu gs,ql set] h (.tup [strs (shR names gs set),.int .i64 (qgC names gs set)]) h:=by
 have c95:=fun h=>qA4 names gs set h hz hs
 unfold shR
 by_cases g:qgC names gs set=0
 case neg=>
  have k0:(qgC names gs set=0)=False:=eq_false g
  rw [if_neg g]
  refine acO qvt ?_
  simp (disch:=omega) only [qxF,List.replicate,k0,go_sem]
  repeat' first
   |((first|refine cA (c95 _) ?_ ?_|refine cG (fun e=>c95 _) ?_ ?_|refine cU (fun _=>c95 _) ?_ ?_);(next=>exact flk);simp (disch:=omega) only [k0,go_sem])
   |((first|apply qc|apply qb);exact rvk;simp only [go_sem];first|exact VLe.refl _|apply qd|apply qa|apply qe|skip)
   |with_reducible first|refine And.intro ?_ ?_|intro _
  all_goals try exact clz
  exact qT ⟨jn,VLe.refl _,trivial⟩
 rw [if_pos g,g]
 simp only [g]at c95
 obtain ⟨n8,g8⟩:=h8 g
 have hse:sgE names gs=0∧qae names.length set=0:=by
  unfold qgC at g
  split at g
  ·rename_i h;exact ⟨h,g⟩
  ·cases g
 have hin:=(kK hse.2).1
 have hin64:inB 64 set:=fun i hi=>by have:=hin i hi;omega
 have hmi:=qkk hse.1
 have hml:=hz.gm
 have hgl:=hz.g
 have c96:=fun h=>qxf set h hs hin64
 have hall:jf set<2^8:=Nat.lt_of_lt_of_le (qkK (by omega) hin) (Nat.pow_le_pow_right (by omega) n8)
 obtain ⟨all,hA⟩: ∃all,all=jf set:=⟨_,rfl⟩
 have hpin:=fun {c} hc {p}=>qqa (names:=names) (gs:=gs) (set:=set) (all:=all) hin (by omega) hA (c:=c) hc (p:=p)
 rw [←hA]at hall
 simp only [←hA]at c96
 have c97:=fun h=>qBb gs all h (by omega) hmi hml (by omega)
 have hLin:=fun {x}=> @qfQ gs all x
 have hLl:(kl gs all).length≤8:=by have:=qS (qil gs all) gs.length;unfold kl;omega
 have hbA:qxb gs all=bst gs all (kl gs all) (2^(kl gs all).length-1):=rfl
 rw [←hA,hbA]
 have hbs:=qji gs all (kl gs all)
 obtain ⟨L,hL⟩: ∃L,L=kl gs all:=⟨_,rfl⟩
 simp only [←hL]at c97 hLin hpin
 rw [←hL]at hLl
 rw [←hL]at hbs ⊢
 have hmsl:=qfH gs L
 have hmsg:=fun {i} hi=>qfG (gs:=gs) (L:=L) (i:=i) hi
 have hmlt:=qqi hmi L
 obtain ⟨ms,hms⟩: ∃ms,ms=usM gs L:=⟨_,rfl⟩
 rw [←hms]at hmsl
 simp only [←hms]at hmsg hmlt
 have z1: ∀g,valL g .len [ql L]= .int .i64 L.length:=fun _=>rfl
 have z2: ∀g,okL g .len [ql L]=True:=fun _=>eq_true trivial
 refine acO qvt ?_
 simp (disch:=omega) only [qxF,List.replicate,z1,z2,go_sem]
 repeat' first
  |((first|refine cA (c95 _) ?_ ?_|refine cG (fun e=>c95 _) ?_ ?_|refine cA (c96 _) ?_ ?_|refine cG (fun e=>c96 _) ?_ ?_|refine cA (c97 _) ?_ ?_|refine cG (fun e=>c97 _) ?_ ?_|refine cU (fun _=>c95 _) ?_ ?_|refine cU (fun _=>c96 _) ?_ ?_|refine cU (fun _=>c97 _) ?_ ?_);(next=>exact flk);simp (disch:=omega) only [z1,z2,go_sem])
  |((first|apply qc|apply qb);exact rvk;simp only [go_sem];first|exact VLe.refl _|apply qd|apply qa|apply qe|skip)
  |with_reducible first|refine And.intro ?_ ?_|intro _
 all_goals try exact clz
 refine qn (T:=fun s:Nat×Nat×AObj=>qI 151 [(0,strs names),(4,.op h.length 1 0),(9,.op (h.length+2) 1 0),(10,.op (h.length+3) 1 0),(11,.osl (h.length+4) s.2.1 1 0 s.1),(39,ql L),(40,.int .i64 L.length),(41,.int .i64 s.1)])
  (H:=fun s=>h++ [.mem 1 23 [qu gs],.emp 1,.mem 1 122 [.int .u64 ((all:Nat):Int)],.mem 1 37 [ql L],zk s.2.1 122 (qdF (ms.take s.1)),s.2.2,.emp 0,.emp 0,.emp 0,.emp 0,.emp 0,.emp 0,.emp 0,.emp 0,.emp 0,.emp 0,.emp 0,.emp 0,.emp 0])
  (inv:=fun s=>s.1≤L.length∧qH [s.2.2] 0=true) (m:=fun s=>L.length-s.1) (0,1,.emp 0) ⟨Nat.zero_le _,rfl⟩ (Wk.temps ?_) ?_
 ·(simp only [List.replicate,go_sem,qj,qh,qg,qi];try (repeat' first|(with_reducible refine And.intro ?_ ?_)|(apply qd;omega)|(apply qa;rfl)|exact VLe.refl _))
 rintro ⟨i,v,O5⟩ ⟨i1,i2⟩ K hK
 simp only at i1 i2 hK
 have i2': ∀m,qH (O5::m) 0=true:=fun _=>i2
 by_cases hi:i<L.length
 ·have k1:((i:Int)<L.length)=True:=eq_true (by omega)
  have hst:=qh3 (L:=ms) (i:=i) (by omega)
  rw [hmsg hi]at hst
  have hm:L.getD i 0∈L:=by rw [gdqA,qR hi];exact List.getElem_mem hi
  obtain ⟨y,hy,hyl⟩:=hLin hm
  rw [hy]at hst
  simp only [Int.toNat_natCast]at hst
  have k2:((y:Int)<gs.length)=True:=eq_true (by omega)
  have k3:(0≤(y:Int))=True:=eq_true (by omega)
  have c96:=fun h=>qxf (gs.getD y default).mem h (hml y) (hmi y)
  obtain ⟨gr,hgr⟩: ∃gr,gr=gs.getD y default:=⟨_,rfl⟩
  have egr:=hgr.symm
  simp only [egr]at c96
  rw [egr]at hst
  have eCl:(qdF (ms.take i)).length=i:=by rw [qgF,List.length_take];omega
  have eTk:List.take i (qdF (ms.take i))=qdF (ms.take i):=List.take_of_length_le (by omega)
  have zv:ql L= .sl L.length fun i=> [.int .i64 (L.getD i 0)]:=rfl
  simp (disch:=omega) only [List.replicate,qu,grC,zv,k1,k2,k3,i2',hy,egr,Nat.mul_one,Int.toNat_natCast,go_sem]
  repeat' first
   |((first|refine cA (c96 _) ?_ ?_|refine cG (fun e=>c96 _) ?_ ?_|refine cU (fun _=>c96 _) ?_ ?_);(next=>exact flk);simp (disch:=omega) only [qu,grC,zv,k1,k2,k3,i2',hy,egr,eCl,eTk,Nat.mul_one,Int.toNat_natCast,go_sem])
   |((first|apply qc|apply qb);exact rvk;simp only [go_sem];first|exact VLe.refl _|apply qd|apply qa|apply qe|skip)
   |with_reducible first|refine And.intro ?_ ?_|intro _
  all_goals try exact clz
  have eA:qdF (ms.take i)++ [AV.int .u64 ((jf gr.mem:Nat):Int)]=qdF (ms.take (i+1)):=by rw [hst,qpl];rfl
  rw [eA]
  refine hK _ _ (i+1,v+1,.mem (qv (some O5)+1) 122 [.int .u64 ((jf gr.mem:Nat):Int)]) ⟨hi,rfl⟩ (by simp only;omega) ?_
  simp only [zv,qu,grC]
  refine Wk.temps ?_
  (simp only [List.replicate,go_sem,qj,qh,qg,qi];try (repeat' first|(with_reducible refine And.intro ?_ ?_)|(apply qd;omega)|(apply qa;rfl)|exact VLe.refl _))
 obtain rfl:i=L.length:=by omega
 have k1:((L.length:Int)<L.length)=False:=eq_false (by omega)
 have emt:ms.take L.length=ms:=List.take_of_length_le (by omega)
 rw [emt]
 simp (disch:=omega) only [List.replicate,k1,go_sem]
 repeat' first
  |((first|apply qc|apply qb);exact rvk;simp only [go_sem];first|exact VLe.refl _|apply qd|apply qa|apply qe|skip)
  |with_reducible first|refine And.intro ?_ ?_|intro _
 all_goals try exact clz
 have hbs0:bsO h gs all L 0 .nl (.emp 0):= .inl ⟨rfl,rfl⟩
 refine ⟨qI 151 [(0,strs names),(4,.op h.length 1 0),(9,.op (h.length+2) 1 0),(10,.op (h.length+3) 1 0),(11,jJ ms),(14,.op (h.length+7) 1 0),(15,.op (h.length+8) 1 0)],shH h gs all L (v+1) O5 .nl false (.emp 0) (.emp 0) (.emp 0) [],Wk.trans (Wk.freeze [h.length+4] (by simp only [jF,go_sem])) ?_,?_⟩
 ·unfold shH
  simp only [qbC,List.map,go_sem]
  refine Wk.temps ?_
  (simp only [List.replicate,go_sem,qj,qh,qg,qi];try (repeat' first|(with_reducible refine And.intro ?_ ?_)|(apply qd;omega)|(apply qa;rfl)|exact VLe.refl _))
  all_goals first
   |(rw [if_neg (by simp)];exact VLe.refl _)
   |(rw [if_pos (by simp),if_pos (by simp)];exact qoV (fun _=>rfl) (by omega))
 have c98:=fun h=>qAm ms h
 simp (disch:=omega) only [List.replicate,go_sem]
 repeat' first
  |((first|refine cA (c98 _) ?_ ?_|refine cG (fun e=>c98 _) ?_ ?_|refine cU (fun _=>c98 _) ?_ ?_);(next=>exact flk);simp (disch:=omega) only [go_sem])
  |((first|apply qc|apply qb);exact rvk;simp only [go_sem];first|exact VLe.refl _|apply qd|apply qa|apply qe|skip)
  |with_reducible first|refine And.intro ?_ ?_|intro _
 all_goals try exact clz
 refine kj (xs:=qmH ms) (itC ms (by omega) hmlt) (qnd ms)
  (S:=fun i hh=> ∃bc O9 O10 O12,bsO h gs all L i bc O9∧(∀n,qai n O9)∧qH [O10] 0=true∧(∀n,qai n O10)∧qH [O12] 0=true∧(∀n,qai n O12)∧hh=shH h gs all L (v+1) O5 bc (decide (0<i)) O9 O10 O12 [])
  (E:=fun _ _=>False) ?_ (fun _ _ h=>h.elim) ?_ ?_ ?_ ?_ (fun _ _ h=>h.elim)
 ·rintro i hh ⟨bc,O9,O10,O12,b1,b2,b4,b5,b6,b7,rfl⟩
  have hbc:zE (h.length+19) bc=true∧zE (h.length+19+1) bc=true:=by
   rcases b1 with ⟨rfl,_⟩|⟨j,w,_,rfl,_⟩
   ·cases i<;>exact ⟨rfl,rfl⟩
   ·constructor<;>simp [zE]<;>omega
  unfold shH
  refine LowI.app rfl (fun o ho=> ?_)
  have e19:([.mem 1 23 [qu gs],.emp 1,.mem 1 122 [.int .u64 ((all:Nat):Int)],.mem 1 37 [ql L],.emp (v+1),O5,.emp 0,.mem 1 37 [.nl],.mem 1 4 [.bool false],.emp 0,.emp 0,.emp 0,.emp 0,.emp 0,.emp 0,.emp 0,.emp 0,.emp 0,.emp 0]:List AObj).length=19:=rfl
  simp only [List.mem_cons,List.not_mem_nil,or_false]at ho
  rcases ho with rfl|rfl|rfl|rfl|rfl|rfl|rfl|rfl|rfl|rfl|rfl|rfl|rfl|rfl|rfl|rfl|rfl|rfl|rfl
  all_goals first
   |(left;simp;done)
   |(right;exact ⟨b2 _,b2 _⟩)
   |(right;exact ⟨b5 _,b5 _⟩)
   |(right;exact ⟨b7 _,b7 _⟩)
   |(right;rw [e19];constructor<;>(intro c hc;simp only [List.mem_cons,List.not_mem_nil,or_false]at hc;subst hc;first|rfl|exact hbc.1|exact hbc.2))
 ·exact ⟨.nl,.emp 0,.emp 0,.emp 0,hbs0,fun _=>trivial,rfl,fun _=>trivial,rfl,fun _=>trivial,rfl⟩
 ·rw [zV]
  simp [zE,zE.lowVs,qbP,qkC]
  try omega
 ·rintro i hh tl LI TS hi ⟨bc,O9,O10,O12,b1,b2,b4,b5,b6,b7,rfl⟩ hq K K2 hK hN hR hX
  rw [qfY hi]
  rw [qc4,hmsl]at hi
  simp only [qba]
  simp (disch:=omega) only [go_sem]
  refine hK _ _ (shH h gs all L (v+1) O5 bc (decide (0<i)) O9 O10 O12 []) rfl (by rw [zV,zV]) ?_
  rw [qbb]
  obtain ⟨O9',p9,l9,w⟩:=shW (tl:= .lp .busy TS LI::tl) (v4:=v+1) (O5:=O5) (fd:=decide (0<i)) (O10:=O10) (O12:=O12) b1 b2
  have p9': ∀m,qH (O9'::m) 0=true:=fun _=>p9
  have hi8:i<256:=Nat.lt_of_lt_of_le hi (Nat.pow_le_pow_right (by omega) hLl:2^L.length≤2^8)
  have hchl:=qpK hmlt i
  obtain ⟨m,hm⟩: ∃m,m=chN ms i:=⟨_,rfl⟩
  rw [←hm]at hchl
  have hand:=qfX (a:=all) (b:=m) (by omega) hchl
  have hanl:anN all m<256:=qpG (n:=8) hall
  have c99a:=fun h=>qzV i h hi8
  have c99b:=fun h=>qzV (anN all m) h hanl
  have c100a:=fun h=>qyJ i h (by omega)
  have c100b:=fun h=>qyJ (anN all m) h (by omega)
  have hplc0:j7 gs all L i=(qY i.testBit 64).map (fun k=>L.getD k.toNat 0)++(qY (anN all m).testBit 64).map (fun s=>(gs.length:Int)+s):=by unfold j7;rw [←hms,←hm]
  have hpl:=qdm gs all L i
  rw [←hms,←hm]at hpl
  have hpi:qmL i=(qY i.testBit 64).length:=rfl
  have hpj:qmL (anN all m)=(qY (anN all m).testBit 64).length:=rfl
  have hM1: ∀x∈qY i.testBit 64,∃y:Nat,x=(y:Int)∧y<L.length:=fun x hx=>by
   obtain ⟨y,e1,e2,e3⟩:=zA hx
   exact ⟨y,e1,qak hi e3⟩
  have hM2: ∀x∈qY (anN all m).testBit 64,∃y:Nat,x=(y:Int)∧y<64:=fun x hx=>by
   obtain ⟨y,e1,e2,e3⟩:=zA hx
   exact ⟨y,e1,e2⟩
  have hM1l:=qS i.testBit 64
  have hM2l:=qS (anN all m).testBit 64
  obtain ⟨M,hM⟩: ∃M,M=qY i.testBit 64:=⟨_,rfl⟩
  obtain ⟨M2,hM'⟩: ∃M2,M2=qY (anN all m).testBit 64:=⟨_,rfl⟩
  obtain ⟨s1,hs1⟩: ∃s1,s1=qmL i:=⟨_,rfl⟩
  obtain ⟨s2,hs2⟩: ∃s2,s2=qmL (anN all m):=⟨_,rfl⟩
  rw [←hM]at hplc0 hpi hM1 hM1l
  rw [←hM']at hplc0 hpj hM2 hM2l
  rw [←hs1]at hpi
  rw [←hs2]at hpj
  rw [←hs1,←hs2]at hpl
  simp only [←hM]at c100a
  simp only [←hM']at c100b
  simp only [←hs1]at c99a
  simp only [←hs2]at c99b
  obtain ⟨F,hF⟩: ∃F,F=M.map (fun k=>L.getD k.toNat 0):=⟨_,rfl⟩
  obtain ⟨G,hG⟩: ∃G,G=M2.map (fun s=>(gs.length:Int)+s):=⟨_,rfl⟩
  have hplc:j7 gs all L i=F++G:=by rw [hplc0,hF,hG]
  have hFl:F.length=M.length:=by rw [hF,List.length_map]
  have hGl:G.length=M2.length:=by rw [hG,List.length_map]
  have hMF: ∀j,j<M.length→ ∃y:Nat,M.getD j 0=(y:Int)∧y<L.length∧F.getD j 0=L.getD y 0:=fun j hj=>by
   have hm:M.getD j 0∈M:=by rw [gdqA,qR hj];exact List.getElem_mem hj
   obtain ⟨y,e1,e2⟩:=hM1 _ hm
   refine ⟨y,e1,e2,?_⟩
   rw [gdqA,qR hj]at e1
   have e1:M[j]=(y:Int):=e1
   rw [hF,gdqA,List.getElem?_map,qR hj,e1]
   rfl
  have hMG: ∀j,j<M2.length→ ∃y:Nat,M2.getD j 0=(y:Int)∧y<64∧G.getD j 0=(gs.length:Int)+y:=fun j hj=>by
   have hm:M2.getD j 0∈M2:=by rw [gdqA,qR hj];exact List.getElem_mem hj
   obtain ⟨y,e1,e2⟩:=hM2 _ hm
   refine ⟨y,e1,e2,?_⟩
   rw [gdqA,qR hj]at e1
   have e1:M2[j]=(y:Int):=e1
   rw [hG,gdqA,List.getElem?_map,qR hj,e1]
   rfl
  have zM1: ∀g,valL g .len [ql M]= .int .i64 M.length:=fun _=>rfl
  have zM2: ∀g,okL g .len [ql M]=True:=fun _=>eq_true trivial
  simp only [←hm]
  simp (disch:=omega) only [go_sem]
  refine ⟨_,_,w _,?_⟩
  clear w
  cases i with
  |zero=>
   have hfd:decide (0<0)=false:=rfl
   simp (disch:=omega) only [shH,hfd,bsC,p9',zM1,zM2,go_sem]
   repeat' first
    |((first|refine cA (c99a _) ?_ ?_|refine cG (fun e=>c99a _) ?_ ?_|refine cA (c99b _) ?_ ?_|refine cG (fun e=>c99b _) ?_ ?_|refine cA (c100a _) ?_ ?_|refine cG (fun e=>c100a _) ?_ ?_|refine cU (fun _=>c99a _) ?_ ?_|refine cU (fun _=>c99b _) ?_ ?_|refine cU (fun _=>c100a _) ?_ ?_);(next=>exact flk);simp (disch:=omega) only [shH,hfd,bsC,p9',hand,zM1,zM2,go_sem])
    |((first|apply qc|apply qb);exact rvk;simp only [go_sem];first|exact VLe.refl _|apply qd|apply qa|apply qe|skip)
    |with_reducible first|refine And.intro ?_ ?_|intro _
   all_goals try exact clz
   refine qn (T:=fun j:Nat×Nat×AObj=>qI 151 [(0,strs names),(4,.op h.length 1 0),(9,.op (h.length+2) 1 0),(10,.op (h.length+3) 1 0),(14,.op (h.length+7) 1 0),(15,.op (h.length+8) 1 0),(16,.int .u64 ((0:Nat):Int)),(17,.int .u64 ((m:Nat):Int)),(19,.osl (h.length+9) j.2.1 1 0 j.1),(74,ql M),(75,.int .i64 M.length),(76,.int .i64 j.1)])
    (H:=fun j=>shH h gs all L (v+1) O5 .nl false (zk j.2.1 3 (qp (F.take j.1))) j.2.2 O12 (.lp .busy TS LI::tl))
    (inv:=fun j=>j.1≤M.length∧qH [j.2.2] 0=true∧ ∀n,qai n j.2.2) (m:=fun j=>M.length-j.1) (0,qv (some O9')+1,O10) ⟨Nat.zero_le _,b4,b5⟩ (Wk.temps ?_) ?_
   ·(simp only [List.replicate,go_sem,qj,qh,qg,qi];try (repeat' first|(with_reducible refine And.intro ?_ ?_)|(apply qd;omega)|(apply qa;rfl)|exact VLe.refl _))
   rintro ⟨j,u,O10⟩ ⟨j1,j2,j3⟩ KA hKA
   simp only at j1 j2 j3 hKA
   have j2': ∀m,qH (O10::m) 0=true:=fun _=>j2
   by_cases hj:j<M.length
   ·have q1:((j:Int)<M.length)=True:=eq_true (by omega)
    obtain ⟨y,hy,hyl,hyF⟩:=hMF j hj
    have q2:((y:Int)<L.length)=True:=eq_true (by omega)
    have q3:(0≤(y:Int))=True:=eq_true (by omega)
    have hst:=j5 (L:=F) (i:=j) (by omega)
    rw [hyF]at hst
    have eC:=qw (F.take j)
    rw [List.length_take,Nat.min_eq_left (by omega)]at eC
    have eTk:List.take j (qp (F.take j))=qp (F.take j):=List.take_of_length_le (by omega)
    have zv: ∀X:List Int,ql X= .sl X.length fun i=> [.int .i64 (X.getD i 0)]:=fun _=>rfl
    simp (disch:=omega) only [List.replicate,shH,q1,q2,q3,j2',zv,hy,Nat.mul_one,Int.toNat_natCast,go_sem]
    repeat' first
     |((first|apply qc|apply qb);exact rvk;simp only [go_sem];first|exact VLe.refl _|apply qd|apply qa|apply qe|skip)
     |with_reducible first|refine And.intro ?_ ?_|intro _
    all_goals try exact clz
    have eA:qp (F.take j)++ [AV.int .i64 (L.getD y 0)]=qp (F.take (j+1)):=by rw [hst,qQ];rfl
    try rw [eTk]
    rw [eA]
    refine hKA _ _ (j+1,u+1,.mem (qv (some O10)+1) 3 [.int .i64 (L.getD y 0)]) ⟨hj,rfl,fun n c hc=>by simp only [List.mem_cons,List.not_mem_nil,or_false]at hc;subst hc;rfl⟩ (by simp only;omega) ?_
    simp only [shH,zv]
    refine Wk.temps ?_
    (simp only [List.replicate,go_sem,qj,qh,qg,qi];try (repeat' first|(with_reducible refine And.intro ?_ ?_)|(apply qd;omega)|(apply qa;rfl)|exact VLe.refl _))
   obtain rfl:j=M.length:=by omega
   have q1:((M.length:Int)<M.length)=False:=eq_false (by omega)
   have eFt:F.take M.length=F:=List.take_of_length_le (by omega)
   rw [eFt]
   have zm1: ∀g,valL g .len [ql M2]= .int .i64 M2.length:=fun _=>rfl
   have zm2: ∀g,okL g .len [ql M2]=True:=fun _=>eq_true trivial
   simp (disch:=omega) only [List.replicate,shH,q1,zm1,zm2,hand,go_sem]
   repeat' first
    |((first|refine cA (c100b _) ?_ ?_|refine cG (fun e=>c100b _) ?_ ?_|refine cU (fun _=>c100b _) ?_ ?_);(next=>exact flk);simp (disch:=omega) only [shH,q1,hand,zm1,zm2,go_sem])
    |((first|apply qc|apply qb);exact rvk;simp only [go_sem];first|exact VLe.refl _|apply qd|apply qa|apply qe|skip)
    |with_reducible first|refine And.intro ?_ ?_|intro _
   all_goals try exact clz
   refine qn (T:=fun j:Nat×Nat×AObj=>qI 151 [(0,strs names),(4,.op h.length 1 0),(9,.op (h.length+2) 1 0),(10,.op (h.length+3) 1 0),(14,.op (h.length+7) 1 0),(15,.op (h.length+8) 1 0),(19,.osl (h.length+9) j.2.1 1 0 (F.length+j.1)),(91,ql M2),(92,.int .i64 M2.length),(93,.int .i64 j.1)])
    (H:=fun j=>shH h gs all L (v+1) O5 .nl false (zk j.2.1 3 (qp (F++G.take j.1))) O10 j.2.2 (.lp .busy TS LI::tl))
    (inv:=fun j=>j.1≤M2.length∧qH [j.2.2] 0=true∧ ∀n,qai n j.2.2) (m:=fun j=>M2.length-j.1) (0,u,O12) ⟨Nat.zero_le _,b6,b7⟩ ?_ ?_
   ·have e0:F++G.take 0=F:=by simp
    simp only [e0,Nat.add_zero,hFl]
    unfold shH
    refine Wk.temps ?_
    (simp only [List.replicate,go_sem,qj,qh,qg,qi];try (repeat' first|(with_reducible refine And.intro ?_ ?_)|(apply qd;omega)|(apply qa;rfl)|exact VLe.refl _))
   rintro ⟨j,u2,O12⟩ ⟨k1,k2,k3⟩ KB hKB
   simp only at k1 k2 k3 hKB
   have k2': ∀m,qH (O12::m) 0=true:=fun _=>k2
   by_cases hj2:j<M2.length
   ·have q5:((j:Int)<M2.length)=True:=eq_true (by omega)
    obtain ⟨y,hy,hyl,hyG⟩:=hMG j hj2
    have hst:F++G.take (j+1)=(F++G.take j)++ [(gs.length:Int)+y]:=by rw [j5 (L:=G) (i:=j) (by omega),hyG,List.append_assoc]
    have eC:=qw (F++G.take j)
    rw [List.length_append,List.length_take,Nat.min_eq_left (by omega)]at eC
    have eTk:List.take (F.length+j) (qp (F++G.take j))=qp (F++G.take j):=List.take_of_length_le (by omega)
    have zg1: ∀g,valL g .len [qu gs]= .int .i64 gs.length:=fun _=>rfl
    have zg2: ∀g,okL g .len [qu gs]=True:=fun _=>eq_true trivial
    have zv: ∀X:List Int,ql X= .sl X.length fun i=> [.int .i64 (X.getD i 0)]:=fun _=>rfl
    simp (disch:=omega) only [List.replicate,shH,q5,k2',zv,hy,zg1,zg2,Nat.mul_one,Int.toNat_natCast,go_sem]
    repeat' first
     |((first|apply qc|apply qb);exact rvk;simp only [go_sem];first|exact VLe.refl _|apply qd|apply qa|apply qe|skip)
     |with_reducible first|refine And.intro ?_ ?_|intro _
    all_goals try exact clz
    have eA:qp (F++G.take j)++ [AV.int .i64 ((gs.length:Int)+y)]=qp (F++G.take (j+1)):=by rw [hst,qQ (F++G.take j)];rfl
    try rw [eTk]
    rw [eA]
    refine hKB _ _ (j+1,u2+1,.mem (qv (some O12)+1) 3 [.int .i64 ((gs.length:Int)+y)]) ⟨hj2,rfl,fun n c hc=>by simp only [List.mem_cons,List.not_mem_nil,or_false]at hc;subst hc;rfl⟩ (by simp only;omega) ?_
    simp only [shH,zv]
    refine Wk.temps ?_
    (simp only [List.replicate,go_sem,qj,qh,qg,qi];try (repeat' first|(with_reducible refine And.intro ?_ ?_)|(apply qd;omega)|(apply qa;rfl)|exact VLe.refl _))
   obtain rfl:j=M2.length:=by omega
   have q5:((M2.length:Int)<M2.length)=False:=eq_false (by omega)
   have eGt:F++G.take M2.length=j7 gs all L 0:=by rw [List.take_of_length_le (by omega),hplc]
   have eln:F.length+M2.length=(j7 gs all L 0).length:=by rw [hplc,List.length_append];omega
   rw [eGt,eln]
   simp (disch:=omega) only [List.replicate,shH,bsC,q5,hfd,go_sem]
   repeat' first
    |(refine qo (.int .i64 0) ?_;simp (disch:=omega) only [shH,bsC,q5,hfd,go_sem])
    |((first|apply qc|apply qb);exact rvk;simp only [go_sem];first|exact VLe.refl _|apply qd|apply qa|apply qe|skip)
    |with_reducible first|refine And.intro ?_ ?_|intro _
   all_goals try exact clz
   refine hN _ _ (shH h gs all L (v+1) O5 (.osl (h.length+9) u2 1 0 (j7 gs all L 0).length) true (zk u2 3 (qp (j7 gs all L 0))) O10 O12 []) ?_ (by rw [zV,zV]) ⟨_,_,_,_,.inr ⟨0,u2,rfl,rfl,rfl⟩,fun n=>ki (qaF _ _),j2,j3,k2,k3,rfl⟩
   rw [qbb]
   rfl
  |succ i'=>
   have hfd:decide (0<i'+1)=true:=decide_eq_true (by omega)
   have hfd2:decide (0<i'+1+1)=true:=decide_eq_true (by omega)
   have hbs':bst gs all L (i'+1)=if qti (j7 gs all L (i'+1)) (bst gs all L i')=true then j7 gs all L (i'+1) else bst gs all L i':=rfl
   have hbc:bsC gs all L (i'+1)=ql (bst gs all L i'):=rfl
   obtain ⟨b,hb⟩: ∃b,b=bst gs all L i':=⟨_,rfl⟩
   rw [←hb]at hbs' hbc
   have zb1: ∀g,valL g .len [ql b]= .int .i64 b.length:=fun _=>rfl
   have zb2: ∀g,okL g .len [ql b]=True:=fun _=>eq_true trivial
   by_cases hsk:b.length<s1+s2
   ·have r0:((b.length:Int)<(s1:Int)+s2)=True:=eq_true (by omega)
    simp (disch:=omega) only [shH,hfd,hbc,p9',zM1,zM2,zb1,zb2,hand,go_sem]
    repeat' first
     |((first|refine cA (c99a _) ?_ ?_|refine cG (fun e=>c99a _) ?_ ?_|refine cA (c99b _) ?_ ?_|refine cG (fun e=>c99b _) ?_ ?_|refine cA (c100a _) ?_ ?_|refine cG (fun e=>c100a _) ?_ ?_|refine cU (fun _=>c99a _) ?_ ?_|refine cU (fun _=>c99b _) ?_ ?_|refine cU (fun _=>c100a _) ?_ ?_);(next=>exact flk);simp (disch:=omega) only [shH,hfd,hbc,p9',hand,zM1,zM2,zb1,zb2,r0,go_sem])
     |((first|apply qc|apply qb);exact rvk;simp only [go_sem];first|exact VLe.refl _|apply qd|apply qa|apply qe|skip)
     |with_reducible first|refine And.intro ?_ ?_|intro _
    all_goals try exact clz
    have hbt:bst gs all L (i'+1)=b:=by rw [hbs',if_neg (by unfold qti;rw [hpl];simp;omega)]
    refine hN _ _ (shH h gs all L (v+1) O5 (ql b) true O9' O10 O12 []) ?_ (by rw [zV,zV]) ⟨_,_,_,_,.inl ⟨by show ql b=ql (bst gs all L (i'+1));rw [hbt],p9⟩,l9,b4,b5,b6,b7,by rw [hfd2]⟩
    rw [qbb]
    rfl
   have r0:((b.length:Int)<(s1:Int)+s2)=False:=eq_false (by omega)
   simp (disch:=omega) only [shH,hfd,hbc,p9',zM1,zM2,zb1,zb2,hand,go_sem]
   repeat' first
    |((first|refine cA (c99a _) ?_ ?_|refine cG (fun e=>c99a _) ?_ ?_|refine cA (c99b _) ?_ ?_|refine cG (fun e=>c99b _) ?_ ?_|refine cA (c100a _) ?_ ?_|refine cG (fun e=>c100a _) ?_ ?_|refine cU (fun _=>c99a _) ?_ ?_|refine cU (fun _=>c99b _) ?_ ?_|refine cU (fun _=>c100a _) ?_ ?_);(next=>exact flk);simp (disch:=omega) only [shH,hfd,hbc,p9',hand,zM1,zM2,zb1,zb2,r0,go_sem])
    |((first|apply qc|apply qb);exact rvk;simp only [go_sem];first|exact VLe.refl _|apply qd|apply qa|apply qe|skip)
    |with_reducible first|refine And.intro ?_ ?_|intro _
   all_goals try exact clz
   refine qn (T:=fun j:Nat×Nat×AObj=>qI 151 [(0,strs names),(4,.op h.length 1 0),(9,.op (h.length+2) 1 0),(10,.op (h.length+3) 1 0),(14,.op (h.length+7) 1 0),(15,.op (h.length+8) 1 0),(16,.int .u64 (((i'+1):Nat):Int)),(17,.int .u64 ((m:Nat):Int)),(19,.osl (h.length+9) j.2.1 1 0 j.1),(74,ql M),(75,.int .i64 M.length),(76,.int .i64 j.1)])
    (H:=fun j=>shH h gs all L (v+1) O5 (ql b) true (zk j.2.1 3 (qp (F.take j.1))) j.2.2 O12 (.lp .busy TS LI::tl))
    (inv:=fun j=>j.1≤M.length∧qH [j.2.2] 0=true∧ ∀n,qai n j.2.2) (m:=fun j=>M.length-j.1) (0,qv (some O9')+1,O10) ⟨Nat.zero_le _,b4,b5⟩ (Wk.temps ?_) ?_
   ·(simp only [List.replicate,go_sem,qj,qh,qg,qi];try (repeat' first|(with_reducible refine And.intro ?_ ?_)|(apply qd;omega)|(apply qa;rfl)|exact VLe.refl _))
   rintro ⟨j,u,O10⟩ ⟨j1,j2,j3⟩ KA hKA
   simp only at j1 j2 j3 hKA
   have j2': ∀m,qH (O10::m) 0=true:=fun _=>j2
   by_cases hj:j<M.length
   ·have q1:((j:Int)<M.length)=True:=eq_true (by omega)
    obtain ⟨y,hy,hyl,hyF⟩:=hMF j hj
    have q2:((y:Int)<L.length)=True:=eq_true (by omega)
    have q3:(0≤(y:Int))=True:=eq_true (by omega)
    have hst:=j5 (L:=F) (i:=j) (by omega)
    rw [hyF]at hst
    have eC:=qw (F.take j)
    rw [List.length_take,Nat.min_eq_left (by omega)]at eC
    have eTk:List.take j (qp (F.take j))=qp (F.take j):=List.take_of_length_le (by omega)
    have zv: ∀X:List Int,ql X= .sl X.length fun i=> [.int .i64 (X.getD i 0)]:=fun _=>rfl
    simp (disch:=omega) only [List.replicate,shH,q1,q2,q3,j2',zv,hy,Nat.mul_one,Int.toNat_natCast,go_sem]
    repeat' first
     |((first|apply qc|apply qb);exact rvk;simp only [go_sem];first|exact VLe.refl _|apply qd|apply qa|apply qe|skip)
     |with_reducible first|refine And.intro ?_ ?_|intro _
    all_goals try exact clz
    have eA:qp (F.take j)++ [AV.int .i64 (L.getD y 0)]=qp (F.take (j+1)):=by rw [hst,qQ];rfl
    try rw [eTk]
    rw [eA]
    refine hKA _ _ (j+1,u+1,.mem (qv (some O10)+1) 3 [.int .i64 (L.getD y 0)]) ⟨hj,rfl,fun n c hc=>by simp only [List.mem_cons,List.not_mem_nil,or_false]at hc;subst hc;rfl⟩ (by simp only;omega) ?_
    simp only [shH,zv]
    refine Wk.temps ?_
    (simp only [List.replicate,go_sem,qj,qh,qg,qi];try (repeat' first|(with_reducible refine And.intro ?_ ?_)|(apply qd;omega)|(apply qa;rfl)|exact VLe.refl _))
   obtain rfl:j=M.length:=by omega
   have q1:((M.length:Int)<M.length)=False:=eq_false (by omega)
   have eFt:F.take M.length=F:=List.take_of_length_le (by omega)
   rw [eFt]
   have zm1: ∀g,valL g .len [ql M2]= .int .i64 M2.length:=fun _=>rfl
   have zm2: ∀g,okL g .len [ql M2]=True:=fun _=>eq_true trivial
   simp (disch:=omega) only [List.replicate,shH,q1,zm1,zm2,hand,go_sem]
   repeat' first
    |((first|refine cA (c100b _) ?_ ?_|refine cG (fun e=>c100b _) ?_ ?_|refine cU (fun _=>c100b _) ?_ ?_);(next=>exact flk);simp (disch:=omega) only [shH,q1,hand,zm1,zm2,go_sem])
    |((first|apply qc|apply qb);exact rvk;simp only [go_sem];first|exact VLe.refl _|apply qd|apply qa|apply qe|skip)
    |with_reducible first|refine And.intro ?_ ?_|intro _
   all_goals try exact clz
   refine qn (T:=fun j:Nat×Nat×AObj=>qI 151 [(0,strs names),(4,.op h.length 1 0),(9,.op (h.length+2) 1 0),(10,.op (h.length+3) 1 0),(14,.op (h.length+7) 1 0),(15,.op (h.length+8) 1 0),(19,.osl (h.length+9) j.2.1 1 0 (F.length+j.1)),(91,ql M2),(92,.int .i64 M2.length),(93,.int .i64 j.1)])
    (H:=fun j=>shH h gs all L (v+1) O5 (ql b) true (zk j.2.1 3 (qp (F++G.take j.1))) O10 j.2.2 (.lp .busy TS LI::tl))
    (inv:=fun j=>j.1≤M2.length∧qH [j.2.2] 0=true∧ ∀n,qai n j.2.2) (m:=fun j=>M2.length-j.1) (0,u,O12) ⟨Nat.zero_le _,b6,b7⟩ ?_ ?_
   ·have e0:F++G.take 0=F:=by simp
    simp only [e0,Nat.add_zero,hFl]
    unfold shH
    refine Wk.temps ?_
    (simp only [List.replicate,go_sem,qj,qh,qg,qi];try (repeat' first|(with_reducible refine And.intro ?_ ?_)|(apply qd;omega)|(apply qa;rfl)|exact VLe.refl _))
   rintro ⟨j,u2,O12⟩ ⟨k1,k2,k3⟩ KB hKB
   simp only at k1 k2 k3 hKB
   have k2': ∀m,qH (O12::m) 0=true:=fun _=>k2
   by_cases hj2:j<M2.length
   ·have q5:((j:Int)<M2.length)=True:=eq_true (by omega)
    obtain ⟨y,hy,hyl,hyG⟩:=hMG j hj2
    have hst:F++G.take (j+1)=(F++G.take j)++ [(gs.length:Int)+y]:=by rw [j5 (L:=G) (i:=j) (by omega),hyG,List.append_assoc]
    have eC:=qw (F++G.take j)
    rw [List.length_append,List.length_take,Nat.min_eq_left (by omega)]at eC
    have eTk:List.take (F.length+j) (qp (F++G.take j))=qp (F++G.take j):=List.take_of_length_le (by omega)
    have zg1: ∀g,valL g .len [qu gs]= .int .i64 gs.length:=fun _=>rfl
    have zg2: ∀g,okL g .len [qu gs]=True:=fun _=>eq_true trivial
    have zv: ∀X:List Int,ql X= .sl X.length fun i=> [.int .i64 (X.getD i 0)]:=fun _=>rfl
    simp (disch:=omega) only [List.replicate,shH,q5,k2',zv,hy,zg1,zg2,Nat.mul_one,Int.toNat_natCast,go_sem]
    repeat' first
     |((first|apply qc|apply qb);exact rvk;simp only [go_sem];first|exact VLe.refl _|apply qd|apply qa|apply qe|skip)
     |with_reducible first|refine And.intro ?_ ?_|intro _
    all_goals try exact clz
    have eA:qp (F++G.take j)++ [AV.int .i64 ((gs.length:Int)+y)]=qp (F++G.take (j+1)):=by rw [hst,qQ (F++G.take j)];rfl
    try rw [eTk]
    rw [eA]
    refine hKB _ _ (j+1,u2+1,.mem (qv (some O12)+1) 3 [.int .i64 ((gs.length:Int)+y)]) ⟨hj2,rfl,fun n c hc=>by simp only [List.mem_cons,List.not_mem_nil,or_false]at hc;subst hc;rfl⟩ (by simp only;omega) ?_
    simp only [shH,zv]
    refine Wk.temps ?_
    (simp only [List.replicate,go_sem,qj,qh,qg,qi];try (repeat' first|(with_reducible refine And.intro ?_ ?_)|(apply qd;omega)|(apply qa;rfl)|exact VLe.refl _))
   obtain rfl:j=M2.length:=by omega
   have q5:((M2.length:Int)<M2.length)=False:=eq_false (by omega)
   have eGt:F++G.take M2.length=j7 gs all L (i'+1):=by rw [List.take_of_length_le (by omega),hplc]
   have eln:F.length+M2.length=(j7 gs all L (i'+1)).length:=by rw [hplc,List.length_append];omega
   rw [eGt,eln]
   by_cases h1:(j7 gs all L (i'+1)).length<b.length
   ·have r1:(((j7 gs all L (i'+1)).length:Int)<b.length)=True:=eq_true (by omega)
    simp (disch:=omega) only [List.replicate,shH,hbc,q5,hfd,zb1,zb2,r1,go_sem]
    repeat' first
     |(refine qo (.int .i64 0) ?_;simp (disch:=omega) only [shH,hbc,q5,hfd,zb1,zb2,r1,go_sem])
     |((first|apply qc|apply qb);exact rvk;simp only [go_sem];first|exact VLe.refl _|apply qd|apply qa|apply qe|skip)
     |with_reducible first|refine And.intro ?_ ?_|intro _
    all_goals try exact clz
    have hbt:bst gs all L (i'+1)=j7 gs all L (i'+1):=by rw [hbs',if_pos (by unfold qti;simp [h1])]
    refine hN _ _ (shH h gs all L (v+1) O5 (.osl (h.length+9) u2 1 0 (j7 gs all L (i'+1)).length) true (zk u2 3 (qp (j7 gs all L (i'+1)))) O10 O12 []) ?_ (by rw [zV,zV]) ⟨_,_,_,_,.inr ⟨i'+1,u2,rfl,by rw [hbt],by rw [hbt]⟩,fun n=>ki (qaF _ _),j2,j3,k2,k3,by rw [hfd2]⟩
    rw [qbb]
    rfl
   have r1:(((j7 gs all L (i'+1)).length:Int)<b.length)=False:=eq_false (by omega)
   have heq:(j7 gs all L (i'+1)).length=b.length:=by omega
   simp (disch:=omega) only [List.replicate,shH,hbc,q5,hfd,zb1,zb2,r1,go_sem]
   repeat' first
    |((first|apply qc|apply qb);exact rvk;simp only [go_sem];first|exact VLe.refl _|apply qd|apply qa|apply qe|skip)
    |with_reducible first|refine And.intro ?_ ?_|intro _
   all_goals try exact clz
   refine cG (fun _=>qAp (j7 gs all L (i'+1)) b (h.length+9) u2 _ _ rfl (by simp only [go_sem]) heq (by omega)) (fun _=>by exact flk) ?_
   by_cases h2:qpL (j7 gs all L (i'+1)) b<0
   ·have r2:(qpL (j7 gs all L (i'+1)) b<0)=True:=eq_true h2
    simp (disch:=omega) only [r2,go_sem]
    repeat' first
     |((first|apply qc|apply qb);exact rvk;simp only [go_sem];first|exact VLe.refl _|apply qd|apply qa|apply qe|skip)
     |with_reducible first|refine And.intro ?_ ?_|intro _
    all_goals try exact clz
    have hbt:bst gs all L (i'+1)=j7 gs all L (i'+1):=by rw [hbs',if_pos (by unfold qti;simp [heq,h2])]
    refine hN _ _ (shH h gs all L (v+1) O5 (.osl (h.length+9) u2 1 0 (j7 gs all L (i'+1)).length) true (zk u2 3 (qp (j7 gs all L (i'+1)))) O10 O12 []) ?_ (by rw [zV,zV]) ⟨_,_,_,_,.inr ⟨i'+1,u2,rfl,by rw [hbt],by rw [hbt]⟩,fun n=>ki (qaF _ _),j2,j3,k2,k3,by rw [hfd2]⟩
    rw [qbb]
    rfl
   ·have r2:(qpL (j7 gs all L (i'+1)) b<0)=False:=eq_false h2
    simp (disch:=omega) only [r2,go_sem]
    repeat' first
     |((first|apply qc|apply qb);exact rvk;simp only [go_sem];first|exact VLe.refl _|apply qd|apply qa|apply qe|skip)
     |with_reducible first|refine And.intro ?_ ?_|intro _
    all_goals try exact clz
    have hbt:bst gs all L (i'+1)=b:=by rw [hbs',if_neg (by unfold qti;simp [heq,h2])]
    refine hN _ _ (shH h gs all L (v+1) O5 (ql b) true (zk u2 3 (qp (j7 gs all L (i'+1)))) O10 O12 []) ?_ (by rw [zV,zV]) ⟨_,_,_,_,.inl ⟨by show ql b=ql (bst gs all L (i'+1));rw [hbt],site_own0⟩,fun n=>ki (qaF _ _),j2,j3,k2,k3,by rw [hfd2]⟩
    rw [qbb]
    rfl
 ·rintro hh ⟨bc,O9,O10,O12,b1,b2,b4,b5,b6,b7,rfl⟩
  rw [qc4,hmsl]at b1 ⊢
  have hN1:1≤2^L.length:=Nat.one_le_two_pow
  obtain ⟨N,hN⟩: ∃N,2^L.length=N+1:=⟨2^L.length-1,by omega⟩
  obtain ⟨kb,kb1,kb2⟩:=hbs N
  have hBin: ∀p∈bst gs all L N,0≤p∧p<gs.length+names.length:=fun p hp=>by
   rw [kb2]at hp
   exact hpin (by omega) hp
  have hBl:(bst gs all L N).length≤200:=by
   rw [kb2,qdm]
   have h1:=qS kb.testBit 64
   have h2:=qS (anN all (chN (usM gs L) kb)).testBit 64
   unfold qmL
   omega
  rw [hN]at b1
  rw [show 2^L.length-1=N by omega]
  obtain ⟨fd,hfd⟩: ∃fd,fd=decide (0<2^L.length):=⟨_,rfl⟩
  rw [←hfd]
  obtain ⟨O9',hw⟩: ∃O9',∀TT,Wk TT (h++ [.mem 1 23 [qu gs],.emp 1,.mem 1 122 [.int .u64 ((all:Nat):Int)],.mem 1 37 [ql L],.emp (v+1),O5,.emp 0,.mem 1 37 [bc],.mem 1 4 [.bool fd],O9,O10,.emp 0,O12,.emp 0,.emp 1,.emp 0,.emp 0,.emp 0,.emp 0])
    TT (h++ [.mem 1 23 [qu gs],.emp 1,.mem 1 122 [.int .u64 ((all:Nat):Int)],.mem 1 37 [ql L],.emp (v+1),O5,.emp 0,.mem 1 37 [ql (bst gs all L N)],.mem 1 4 [.bool fd],O9',O10,.emp 0,O12,.emp 0,.emp 1,.emp 0,.emp 0,.emp 0,.emp 0]):=by
   rcases b1 with ⟨rfl,p9⟩|⟨j,u,e,rfl,rfl⟩
   ·exact ⟨O9,fun TT=>Wk.refl _ _⟩
   ·obtain rfl:N=j:=by omega
    refine ⟨.emp (u+1),fun TT=> ?_⟩
    have w:=Wk.fzCell (t:=TT) (h:=h++ [.mem 1 23 [qu gs],.emp 1,.mem 1 122 [.int .u64 ((all:Nat):Int)],.mem 1 37 [ql L],.emp (v+1),O5,.emp 0,.mem 1 37 [.osl (h.length+9) u 1 0 (bst gs all L N).length],.mem 1 4 [.bool fd],zk u 3 (qp (bst gs all L N)),O10,.emp 0,O12,.emp 0,.emp 1,.emp 0,.emp 0,.emp 0,.emp 0])
     (j:=h.length+7) (k:=h.length+9) (i:=0) (v:=1) (ty:=37) (cs:= [.osl (h.length+9) u 1 0 (bst gs all L N).length]) (c:= .osl (h.length+9) u 1 0 (bst gs all L N).length) (c':=ql (bst gs all L N))
     (by simp only [go_sem]) rfl (by simp only [go_sem]) (by omega) (by rw [qaB,getO_app];exact kT (fun _=>rfl) rfl)
    simp only [go_sem,List.set_cons_zero]at w
    exact w
  simp (disch:=omega) only [shH,go_sem]
  repeat' first
   |((first|apply qc|apply qb);exact rvk;simp only [go_sem];first|exact VLe.refl _|apply qd|apply qa|apply qe|skip)
   |with_reducible first|refine And.intro ?_ ?_|intro _
  all_goals try exact clz
  refine ⟨_,_,hw _,?_⟩
  obtain ⟨B,hB⟩: ∃B,B=bst gs all L N:=⟨_,rfl⟩
  rw [←hB]at hBin hBl ⊢
  have zb1: ∀g,valL g .len [ql B]= .int .i64 B.length:=fun _=>rfl
  have zb2: ∀g,okL g .len [ql B]=True:=fun _=>eq_true trivial
  simp (disch:=omega) only [zb1,zb2,go_sem]
  repeat' first
   |((first|apply qc|apply qb);exact rvk;simp only [go_sem];first|exact VLe.refl _|apply qd|apply qa|apply qe|skip)
   |with_reducible first|refine And.intro ?_ ?_|intro _
  all_goals try exact clz
  refine qn (T:=fun s:Nat×Nat×AObj×AObj=>qI 151 [(0,strs names),(4,.op h.length 1 0),(24,.osl (h.length+14) s.2.1 1 0 s.1),(121,ql B),(122,.int .i64 B.length),(123,.int .i64 s.1)])
   (H:=fun s=>h++ [.mem 1 23 [qu gs],.emp 1,.mem 1 122 [.int .u64 ((all:Nat):Int)],.mem 1 37 [ql L],.emp (v+1),O5,.emp 0,.mem 1 37 [ql B],.mem 1 4 [.bool fd],O9',O10,.emp 0,O12,.emp 0,zk s.2.1 9 (jH ((B.map (kY names gs)).take s.1)),s.2.2.1,.emp 0,s.2.2.2,.emp 0])
   (inv:=fun s=>s.1≤B.length∧qH [s.2.2.1] 0=true∧qH [s.2.2.2] 0=true) (m:=fun s=>B.length-s.1) (0,1,.emp 0,.emp 0) ⟨Nat.zero_le _,rfl,rfl⟩ (Wk.temps ?_) ?_
  ·(simp only [List.replicate,go_sem,qj,qh,qg,qi];try (repeat' first|(with_reducible refine And.intro ?_ ?_)|(apply qd;omega)|(apply qa;rfl)|exact VLe.refl _))
  rintro ⟨i,u,O15,O17⟩ ⟨i1,i2,i3⟩ K hK
  simp only at i1 i2 i3 hK
  have i2': ∀m,qH (O15::m) 0=true:=fun _=>i2
  have i3': ∀m,qH (O17::m) 0=true:=fun _=>i3
  have eCl:i≤B.length→(jH ((B.map (kY names gs)).take i)).length=i:=fun hi=>by rw [zY,List.length_take,List.length_map];omega
  have zv: ∀X:List Int,ql X= .sl X.length fun i=> [.int .i64 (X.getD i 0)]:=fun _=>rfl
  by_cases hi:i<B.length
  ·have q1:((i:Int)<B.length)=True:=eq_true (by omega)
   have hm:B.getD i 0∈B:=by rw [gdqA,qR hi];exact List.getElem_mem hi
   obtain ⟨p0,p1⟩:=hBin _ hm
   have hst:(B.map (kY names gs)).take (i+1)=(B.map (kY names gs)).take i++ [kY names gs (B.getD i 0)]:=by
    rw [←List.map_take,←List.map_take,j5 hi,List.map_append]
    rfl
   have eTk:List.take i (jH ((B.map (kY names gs)).take i))=jH ((B.map (kY names gs)).take i):=List.take_of_length_le (by rw [eCl (by omega)];exact Nat.le_refl _)
   have eC:=eCl (by omega)
   have zg1: ∀g,valL g .len [qu gs]= .int .i64 gs.length:=fun _=>rfl
   have zg2: ∀g,okL g .len [qu gs]=True:=fun _=>eq_true trivial
   obtain ⟨y,hy⟩: ∃y:Nat,B.getD i 0=(y:Int):=⟨(B.getD i 0).toNat,by omega⟩
   rw [hy]at hst p1
   by_cases hg:y<gs.length
   ·have q2:((y:Int)<gs.length)=True:=eq_true (by omega)
    have q3:(0≤(y:Int))=True:=eq_true (by omega)
    have hsg:kY names gs (y:Int)=(gs.getD y default).name:=by unfold kY;rw [if_pos (by omega),Int.toNat_natCast]
    rw [hsg]at hst
    simp (disch:=omega) only [List.replicate,zv,qu,grC,q1,q2,q3,hy,i2',Nat.mul_one,Int.toNat_natCast,go_sem]
    repeat' first
     |((first|apply qc|apply qb);exact rvk;simp only [go_sem];first|exact VLe.refl _|apply qd|apply qa|apply qe|skip)
     |with_reducible first|refine And.intro ?_ ?_|intro _
    all_goals try exact clz
    have eA:jH ((B.map (kY names gs)).take i)++ [AV.str (gs.getD y default).name]=jH ((B.map (kY names gs)).take (i+1)):=by rw [hst,qbU];rfl
    try rw [eTk]
    rw [eA]
    refine hK _ _ (i+1,u+1,.mem (qv (some O15)+1) 9 [.str (gs.getD y default).name],O17) ⟨hi,rfl,i3⟩ (by simp only;omega) ?_
    simp only [zv,qu,grC]
    refine Wk.temps ?_
    (simp only [List.replicate,go_sem,qj,qh,qg,qi];try (repeat' first|(with_reducible refine And.intro ?_ ?_)|(apply qd;omega)|(apply qa;rfl)|exact VLe.refl _))
   ·have q2:((y:Int)<gs.length)=False:=eq_false (by omega)
    obtain ⟨z,hz⟩: ∃z:Nat,(y:Int)-gs.length=(z:Int):=⟨y-gs.length,by omega⟩
    have q3:((z:Int)<names.length)=True:=eq_true (by omega)
    have q4:(0≤(z:Int))=True:=eq_true (by omega)
    have hsg:kY names gs (y:Int)=names.getD z []:=by unfold kY;rw [if_neg (by omega),hz,Int.toNat_natCast]
    rw [hsg]at hst
    simp (disch:=omega) only [List.replicate,zv,strs,zg1,zg2,q1,q2,q3,q4,hy,hz,i3',Nat.mul_one,Int.toNat_natCast,go_sem]
    repeat' first
     |((first|apply qc|apply qb);exact rvk;simp only [go_sem];first|exact VLe.refl _|apply qd|apply qa|apply qe|skip)
     |with_reducible first|refine And.intro ?_ ?_|intro _
    all_goals try exact clz
    have eA:jH ((B.map (kY names gs)).take i)++ [AV.str (names.getD z [])]=jH ((B.map (kY names gs)).take (i+1)):=by rw [hst,qbU];rfl
    try rw [eTk]
    rw [eA]
    refine hK _ _ (i+1,u+1,O15,.mem (qv (some O17)+1) 9 [.str (names.getD z [])]) ⟨hi,i2,rfl⟩ (by simp only;omega) ?_
    simp only [zv,strs]
    refine Wk.temps ?_
    (simp only [List.replicate,go_sem,qj,qh,qg,qi];try (repeat' first|(with_reducible refine And.intro ?_ ?_)|(apply qd;omega)|(apply qa;rfl)|exact VLe.refl _))
  ·obtain rfl:i=B.length:=by omega
   have q1:((B.length:Int)<B.length)=False:=eq_false (by omega)
   have eAll:(B.map (kY names gs)).take B.length=B.map (kY names gs):=List.take_of_length_le (by simp)
   rw [eAll]
   simp (disch:=omega) only [List.replicate,q1,go_sem]
   repeat' first
    |((first|apply qc|apply qb);exact rvk;simp only [go_sem];first|exact VLe.refl _|apply qd|apply qa|apply qe|skip)
    |with_reducible first|refine And.intro ?_ ?_|intro _
   all_goals try exact clz
   exact qT ⟨qgy (fun _=>rfl) (by simp),VLe.refl _,trivial⟩
end RC
end
section
open Go Go.Proofs AF HY LN
namespace RC
set_option maxHeartbeats 8000000
theorem qcc (p:Nat→Bool) (n:Nat):(qY p n).Pairwise (· < ·):=by
 unfold qY
 rw [List.pairwise_map]
 exact ((List.pairwise_lt_range (n:=n)).filter _).imp fun h=>by simpa using h
theorem qww {l:List Int} (h: ∀i,0<i→i<l.length→l.getD (i-1) 0<l.getD i 0):l.Pairwise (· < ·):=by
 rw [List.pairwise_iff_getElem]
 have key: ∀j i,(hj:j<l.length)→i<j→l.getD i 0<l.getD j 0:=by
  intro j
  induction j with
  |zero=>intro i _ h;omega
  |succ j ih=>
   intro i hj hi
   have h1:=h (j+1) (by omega) hj
   rw [Nat.add_sub_cancel]at h1
   by_cases e:i=j
   ·subst e;exact h1
   ·have:=ih i (by omega) (by omega)
    omega
 intro i j hi hj hij
 have:=key j i hj hij
 rw [gdqA,qR hi,gdqA,qR hj]at this
 exact this
theorem qgf {l:List Int} (h:l.Pairwise (· < ·)):l.Nodup:=h.imp fun h e=>by omega
theorem qrO {l m:List Int} (hl:l.Pairwise (· < ·)) (hm:m.Pairwise (· < ·)) (h: ∀x,x∈l↔x∈m):l=m:=
 List.Perm.eq_of_pairwise (le:=(· < ·)) (fun a b _ _ h1 h2=>by omega) hl hm ((List.perm_ext_iff_of_nodup (qgf hl) (qgf hm)).2 h)
theorem qoO {l:List Int} {n:Nat} (hn:n≤64) (h:qae n l=0):l=qY (jf l).testBit 64:=by
 obtain ⟨h1,h2⟩:=kK h
 have h64:inB 64 l:=fun i hi=>by have:=h1 i hi;omega
 refine qrO (qww h2) (qcc _ _) fun x=> ?_
 rw [jp]
 constructor
 ·intro hx
  have hb:=zI h64 x hx
  exact ⟨x.toNat,by omega,by rw [jk h64];exact decide_eq_true (by rw [show ((x.toNat:Nat):Int)=x by omega];exact hx),by omega⟩
 ·rintro ⟨k,_,hk,rfl⟩
  rw [jk h64]at hk
  exact of_decide_eq_true hk
theorem qmS {a b:Nat} (ha:a<2^64) (hb:b<2^64):anN a b=0↔ ∀k,a.testBit k=true→b.testBit k=true:=by
 constructor
 ·intro h k hk
  have:=qcY ha hb k
  rw [h,Nat.zero_testBit,hk,Bool.true_and]at this
  cases e:b.testBit k with
  |true=>rfl
  |false=>rw [e]at this;cases this
 ·intro h
  refine Nat.eq_of_testBit_eq fun k=> ?_
  rw [qcY ha hb,Nat.zero_testBit]
  cases e:a.testBit k with
  |false=>rfl
  |true=>rw [h k e];rfl
theorem qtf {gs:List Gr} {l:List Int} {i:Nat} (hm:inB 64 (gs.getD i default).mem) (hl:inB 64 l):qil gs (jf l) i=decide (∀x∈(gs.getD i default).mem,x∈l):=by
 unfold qil
 refine decide_eq_decide.2 ?_
 rw [qmS (qbo hm) (qbo hl)]
 constructor
 ·intro h x hx
  have hb:=zI hm x hx
  have:=h x.toNat (by rw [jk hm];exact decide_eq_true (by rw [show ((x.toNat:Nat):Int)=x by omega];exact hx))
  rw [jk hl]at this
  have:=of_decide_eq_true this
  rw [show ((x.toNat:Nat):Int)=x by omega]at this
  exact this
 ·intro h k hk
  rw [jk hm]at hk
  rw [jk hl]
  exact decide_eq_true (h _ (of_decide_eq_true hk))
end RC
end
section
open Go Go.Proofs AF HY LN
namespace RC
set_option maxHeartbeats 16000000
end RC
end
section
open Go Go.Proofs AF HY LN
namespace RC
set_option maxHeartbeats 16000000
end RC
end
section
open Go Go.Proofs AF HY LN
namespace RC
set_option maxHeartbeats 16000000
end RC
end
section
open Go Go.Proofs AF HY LN
namespace RC
set_option maxHeartbeats 4000000
theorem kf (names:List Str) (gs:List Gr):zg names gs []= []:=by
 unfold zg
 split
 ·unfold qY
  have: ∀n,(qdG names gs [] ([]:List Str).length).testBit n=false:=fun n=>by
   show (0:Nat).testBit n=false
   exact Nat.zero_testBit n
  rw [show (qdG names gs [] ([]:List Str).length).testBit=fun _=>false from funext this]
  simp
 ·rfl
def nfE (e:En):En:= { e with layer:=0,pos:=false,sup:= [] }
theorem qvZ (a b:En):qaq (nfE a) (nfE b)=qaq a b:=rfl
theorem qv1 (l:List En):zX (l.map nfE)=(zX l).map nfE:=by
 unfold zX
 rw [List.map_reverse,qeb nfE qvZ]
 rfl
theorem qyK (names:List Str) (gs:List Gr) (l:List En) (src:Int):ofE names gs (l.map nfE) src=(ofE names gs l src).map nfE:=by
 unfold ofE
 rw [qv1,List.filter_map]
 rfl
theorem qgj: ∀l:List En,zQ (l.map nfE)=zQ l
 | []=>rfl
 | [_]=>rfl
 |a::b::r=>by
  show (jb (nfE a) (nfE b)||zQ ((b::r).map nfE))=(jb a b||zQ (b::r))
  rw [qgj (b::r)]
  rfl
theorem qp6 (names:List Str) (gs:List Gr) (l:List En):zL names gs (l.map nfE)=zL names gs l:=by
 unfold zL
 congr 1
 funext s
 rw [qyK,qgj]
theorem qiq {names:List Str} {gs:List Gr} {e:En}: ∀n:Nat,(∀j k,j<k→k<n→ ∀x∈zg names gs (e.vars.getD j default).sigla,¬x∈zg names gs (e.vars.getD k default).sigla)→
  (∀k,k<n→ ∀x∈zg names gs e.sup,¬x∈zg names gs (e.vars.getD k default).sigla)→(zZ names gs e n).2=false:=by
 intro n
 induction n with
 |zero=>intro _ _;rfl
 |succ n ih=>
  intro h1 h2
  have hn:=ih (fun j k a b=>h1 j k a (by omega)) (fun k a=>h2 k (by omega))
  rw [zW]
  show ((zZ names gs e n).2||_)=false
  rw [hn,Bool.false_or,List.any_eq_false]
  intro x hx
  rw [decide_eq_true_eq]
  rcases (qaU names gs e n hn x).1 hx with hs|⟨j,hj,hs⟩
  ·exact h2 n (by omega) x hs
  ·exact h1 j n hj (by omega) x hs
theorem qpg {names:List Str} {gs:List Gr} {w:List Str} {e:En} {S:List Str} (h:kX names gs w e=0) (hS:ji names gs S=0) (hd: ∀k,k<e.vars.length→ ∀x∈zg names gs S,¬x∈zg names gs (e.vars.getD k default).sigla):kX names gs w { e with pos:=true,sup:=S }=0:=by
 have c:=jh.1 h
 refine jh.2 ⟨c.sg,c.tn,c.tw,c.lay,c.rng,fun _=>rfl,c.ne,c.va,hS,c.ev,?_⟩
 refine qiq _ (fun j k hj hk x hx=> ?_) hd
 exact qbW c.tc hj hk hx
end RC
end
section
open Go Go.Proofs AF
def qvT:List Nat:= [93,74,79,120,147,148,161,170,63,105,131,64,31,32,57,58,29,30]
def qxE:C:=
 ((C.ops [O1 5 (.box 0 49) 2,ON 6 (.nilo 1 1 3) [],MC 7 (i6 0)]).seq (((C.ops [MV 15 0,MV 16 1,O2 17 (.call 59 true) 15 16,BC 18 .neq 17 (i6 0)]).seq (C.cond (.t 18) ((C.ops
 [ON 6 (.nilo 1 1 3) [],MC 7 (i6 1)]).seq C.ret) C.skip)).seq ((C.ops [⟨some 8,none,.alloc 2 117 [i6 0,i6 0,i6 0,i6 0,i6 0,i6 0,i6 0,i6 0,i6 0,i6 0,i6 0,i6 0,i6 0,i6
 0,i6 0,i6 0,i6 0,i6 0,i6 0,i6 0,i6 0,i6 0,i6 0,i6 0,i6 0,i6 0,i6 0,i6 0,i6 0,i6 0,i6 0,i6 0],[]⟩]).seq (((C.ops [O1 19 (.fldA 5) 5,LD 20 19,O1 21 .len 20,MC
 22 (i6 0)]).seq (C.block 0 ((C.ops [BI 23 .lss 22 21]).seq ((C.cond (.t 23) C.skip (C.exit 0)).seq ((C.block 1 ((C.ops [O2 24 (.idxA 2) 20 22,O1 25 (.load (some 2)) 24,⟨some 10,
 none,.alloc 3 51 [.nl,.nl],[]⟩,ST 2 10 25]).seq ((C.ops [MV 26 0,MV 27 1,O1 28 (.fldA 1) 10,LD 29 28,ON 30 (.call 93 false) [.t 26,.t 27,.t 29,.t 8],MV 11 30]).seq
 ((C.ops [MV 31 11,BC 32 .neq 31 (i6 0)]).seq (C.cond (.t 32) ((C.ops [MV 33 11,ON 6 (.nilo 1 1 3) [],MV 7 33]).seq C.ret) C.skip))))).seq (C.ops [BC 34 .add 22 (i6 1),MV 22
 34])))).loop)).seq (((C.ops [O1 35 (.load (some 32)) 8,O1 36 (.call 94 true) 35]).seq (C.cond (.t 36) ((C.ops [ON 6 (.nilo 1 1 3) [],MC 7 (i6 17)]).seq C.ret) C.skip)).seq
 ((C.ops [ON 12 (.nilo 4 1 3) []]).seq (((C.ops [O1 37 (.load (some 32)) 8,MC 38 (i6 0)]).seq (C.block 2 ((C.ops [BC 39 .lss 38 (i6 32)]).seq ((C.cond (.t 39) C.skip (C.exit
 2)).seq ((C.block 3 ((C.ops [MV 40 38,O2 41 (.aidx 32 1 none) 37 38,MV 13 40,MV 14 41]).seq ((C.ops [MV 42 14,BC 43 .gtr 42 (i6 0)]).seq (C.cond (.t 43) (C.ops [MV 44 12,MV 45
 13,⟨some 46,none,.bslc 5 1 1 3 [i6 0] [(0,1)],[.t 45]⟩,O2 47 (.app 6 1 3 8) 44 46,MV 12 47]) C.skip)))).seq (C.ops [BC 48 .add 38 (i6 1),MV 38 48])))).loop)).seq ((C.ops
 [MV 49 12,MV 6 49,MC 7 (i6 0)]).seq
 C.ret))))))))
theorem qvs:qJ Tryz.prog 60 50 7 [RV.tmp 6,RV.tmp 7] qxE:=fi Tryz.f60 [5,6,8,10,12,46,47] qvT [] (by kernel_rfl) (by kernel_rfl) (by kernel_rfl) (by kernel_rfl)
end
